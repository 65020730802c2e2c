/- ProbeOrders answers true: its walk. -/
import Derived.Test.YtbooplbhlmiihaaProbeRef
set_option linter.unusedVariables false
set_option linter.unusedSimpArgs false
set_option maxRecDepth 100000
namespace Go.Proofs.Ytbooplbhlmiihaa.Probe
open Go.RowKit Go.Proofs Go.Proofs.Ytbooplbhlmiihaa.Eng Go.Proofs.Ytbooplbhlmiihaa.Ty Go.Proofs.Ytbooplbhlmiihaa.Bits

theorem way_one (home : Int) (g : Nat) : ∀ x ∈ way home g, x.length = 1 := by
  intro x hx; simp only [way, List.mem_map] at hx; obtain ⟨_, _, rfl⟩ := hx; rfl

theorem ProbeOrders_ok (home groups stop : Int) (hh : 0 ≤ home ∧ home < 18446744073709551616) :
    FnOk Try.prog 4 #[.int .u64 home, .int .i64 groups, .int .i64 stop] [] (fun v L => v = .bool true ∧ L = []) := by
  have hle := grp_le groups
  refine fn_intro en4 Try.func4 rfl rfl rfl ?_
  intro Fr w0
  refine t_norm fun M hM => ?_
  try simp only [List.cons_append, List.nil_append, List.append_nil] at hM
  subst M
  refine t_seq ?_
  refine t_region ?_
  refine o_box1 rfl rfl rfl (fun b5 => ?_)
  refine o_alloc1 rfl ty_zero4 rfl (fun b6 => ?_)
  refine l_nil ?_
  refine n_code ?_
  refine t_seq ?_
  refine t_region ?_
  refine l_q rfl (q_move rfl) ?_
  refine l_q rfl (q_move rfl) ?_
  apply l_callf rfl rfl rfl (rOrder_ok2 _ _ hh)
  · repeat (first | with_reducible exact .nil | apply Pick.cons | with_reducible exact .here | apply Take.there)
  rintro v L' ⟨rfl, a, cap, rfl, ha, hc1, hc2⟩
  refine l_norm fun M hM => ?_
  try simp only [List.cons_append, List.nil_append, List.append_nil] at hM
  subst M
  refine o_alloc1 rfl ty_zero27 rfl (fun b7 => ?_)
  apply o_storeL rfl rfl rfl ty_size27 rfl
  · repeat (first | with_reducible exact .here | apply Take.there)
  · repeat (first | exact SetAt.here | apply SetAt.there)
  refine l_nil ?_
  refine n_code ?_
  refine t_seq ?_
  refine t_region ?_
  refine l_q rfl (q_move rfl) ?_
  refine l_q rfl (q_move rfl) ?_
  apply l_callf rfl rfl rfl (Order_ok _ _)
  · repeat (first | with_reducible exact .nil | apply Pick.cons | with_reducible exact .here | apply Take.there)
  rintro v L' ⟨bh, bg, rfl, rfl⟩
  refine l_norm fun M hM => ?_
  try simp only [List.cons_append, List.nil_append, List.append_nil] at hM
  subst M
  refine o_alloc1 rfl ty_zero30 rfl (fun b8 => ?_)
  apply o_storeL rfl rfl rfl ty_size30 rfl
  · repeat (first | with_reducible exact .here | apply Take.there)
  · repeat (first | exact SetAt.here | apply SetAt.there)
  refine l_nil ?_
  refine n_code ?_
  refine t_seq ?_
  refine t_seq ?_
  refine t_region ?_
  apply l_q rfl
  · apply q_loadL rfl ty_agg30
    · repeat (first | with_reducible exact .here | apply Take.there)
    · repeat (first | exact GetAt.here | apply GetAt.there)
  apply l_q rfl
  · apply q_bin rfl rfl (fun w => g_func w); exact fun w => b_eqlF0 w Try.underlying30
  refine l_nil ?_
  refine n_code ?_
  refine t_cond_f rfl ?_
  refine t_skip ?_
  refine n_code ?_
  refine t_seq ?_
  refine t_region ?_
  refine o_alloc1 rfl ty_zero3 rfl (fun b9 => ?_)
  apply o_storeL rfl rfl rfl ty_size3 rfl
  · repeat (first | with_reducible exact .here | apply Take.there)
  · repeat (first | exact SetAt.here | apply SetAt.there)
  refine l_nil ?_
  refine n_code ?_
  refine t_seq ?_
  refine t_seq ?_
  refine t_region ?_
  apply l_q rfl
  · apply q_loadL rfl ty_agg30
    · repeat (first | with_reducible exact .here | apply Take.there)
    · repeat (first | exact GetAt.here | apply GetAt.there)
  refine l_nil ?_
  refine n_code ?_
  refine t_block ?_
  apply t_range (p := (fun k (_ : Unit) => True)) (J := (fun k _ => [pt b9 (.cells #[.int .i64 (k : Nat)] 3 (0, 0)), pt b8 (.cells #[.func (.func 25) #[] #[.pointer (some ⟨bh, 0, none⟩), .pointer (some ⟨bg, 0, none⟩)]] 30 (0, 0)), pt b5 (.cells #[.int .i64 stop] 3 (0, 0)), pt b7 (.cells #[.slice a (grp groups) cap] 27 (0, 0)), ownS 3 1 (.slice a (grp groups) cap) (grp groups) (wayV home (grp groups) (grp groups))])) (q := (fun k (y : Code × Unit) => y.1 = .exit 0 ∧ (k : Int) + 1 = stop)) (Jx := (fun k _ => [pt b9 (.cells #[.int .i64 ((k : Nat) + 1)] 3 (0, 0)), pt b8 (.cells #[.func (.func 25) #[] #[.pointer (some ⟨bh, 0, none⟩), .pointer (some ⟨bg, 0, none⟩)]] 30 (0, 0)), pt b7 (.cells #[.slice a (grp groups) cap] 27 (0, 0)), pt b5 (.cells #[.int .i64 stop] 3 (0, 0)), ownS 3 1 (.slice a (grp groups) cap) (grp groups) (wayV home (grp groups) (grp groups))])) (x0 := ()) (hc := order_itS _ _ home hh groups) (hr := rfl) (hg := rfl)
  · repeat (first | with_reducible exact .nil | apply Pick.cons | with_reducible exact .here | apply Take.there)
  · trivial
  · (try dsimp only); (try simp only [Int.natCast_zero, Nat.sub_zero]); repeat (first | with_reducible exact .nil | apply Pick.cons | with_reducible exact .here | apply Take.there)
  · rfl
  · exact way_one _ _
  · intro l rc Fr' w1 k x j hrd hpn hx hj
    obtain ⟨hk, rfl⟩ := way_get hx
    obtain ⟨gb, rfl⟩ := ha (by omega)
    refine t_norm fun M hM => ?_
    try simp only [List.cons_append, List.nil_append, List.append_nil] at hM
    subst M
    refine t_region ?_
    refine l_q rfl (q_assign rfl) ?_
    refine l_nil ?_
    apply n_begin
    · repeat (first | with_reducible exact .here | apply Take.there)
    · assumption
    refine t_block ?_
    refine t_seq ?_
    refine t_seq ?_
    refine t_region ?_
    apply l_q rfl
    · apply q_loadL rfl ty_agg3
      · repeat (first | with_reducible exact .here | apply Take.there)
      · repeat (first | exact GetAt.here | apply GetAt.there)
    apply l_q rfl
    · apply q_loadL rfl ty_agg27
      · repeat (first | with_reducible exact .here | apply Take.there)
      · repeat (first | exact GetAt.here | apply GetAt.there)
    refine l_q rfl (q_len rfl (fun w => len_slice Try.underlying27 w)) ?_
    apply l_q rfl
    · apply q_bin rfl rfl (fun w => g_int w); exact fun w => b_geq w
    refine l_q rfl (q_move rfl) ?_
    first | refine l_part_d (t := 28) rfl (fun q => ?_) (fun q => ?_) | refine l_part_n (t := 28) rfl (fun q => ?_) (fun q => ?_) | refine l_part (t := 28) rfl (fun q => ?_) (fun q => ?_)
    · omega
    · refine l_on rfl rfl ?_
      refine l_q rfl (q_move rfl) ?_
      refine l_on rfl rfl ?_
      apply l_q rfl
      · apply q_loadL rfl ty_agg27
        · repeat (first | with_reducible exact .here | apply Take.there)
        · repeat (first | exact GetAt.here | apply GetAt.there)
      refine l_on rfl rfl ?_
      apply l_q rfl
      · apply q_loadL rfl ty_agg3
        · repeat (first | with_reducible exact .here | apply Take.there)
        · repeat (first | exact GetAt.here | apply GetAt.there)
      refine l_on rfl rfl ?_
      refine l_q rfl (q_indexAddr1 rfl rfl Try.underlying27 ty_size3 (by omega)) ?_
      refine l_on rfl rfl ?_
      apply l_q rfl
      · apply q_loadOwn rfl ty_agg3
        · repeat (first | with_reducible exact .here | apply Take.there)
        · rw [show 0 + ((k : Nat) : Int).toNat = k by omega, wayV_at (by omega)]
      refine l_on rfl rfl ?_
      apply l_q rfl
      · apply q_bin rfl rfl (fun w => g_int w); exact fun w => b_neq w
      apply l_q rfl
      · first | exact q_pick_t rfl rfl | exact q_pick_f rfl rfl
      refine l_nil ?_
      refine n_code ?_
      first | refine t_cond_d rfl (fun z => ?_) (fun z => ?_) | refine t_cond_n rfl (fun z => ?_) (fun z => ?_) | refine t_cond rfl (fun z => ?_) (fun z => ?_)
      · exact absurd rfl z
      · refine t_skip ?_
        refine n_code ?_
        refine t_seq ?_
        refine t_region ?_
        apply l_q rfl
        · apply q_loadL rfl ty_agg3
          · repeat (first | with_reducible exact .here | apply Take.there)
          · repeat (first | exact GetAt.here | apply GetAt.there)
        apply l_q rfl
        · apply q_bin rfl rfl (fun w => g_int w); first | exact fun w => b_add_i w (by omega) | exact fun w => b_add w
        apply o_storeL rfl rfl rfl ty_size3 rfl
        · repeat (first | with_reducible exact .here | apply Take.there)
        · repeat (first | exact SetAt.here | apply SetAt.there)
        refine l_nil ?_
        refine n_code ?_
        refine t_seq ?_
        refine t_region ?_
        apply l_q rfl
        · apply q_loadL rfl ty_agg3
          · repeat (first | with_reducible exact .here | apply Take.there)
          · repeat (first | exact GetAt.here | apply GetAt.there)
        apply l_q rfl
        · apply q_loadL rfl ty_agg3
          · repeat (first | with_reducible exact .here | apply Take.there)
          · repeat (first | exact GetAt.here | apply GetAt.there)
        apply l_q rfl
        · apply q_bin rfl rfl (fun w => g_int w); exact fun w => b_eql w
        refine l_nil ?_
        refine n_code ?_
        first | refine t_cond_d rfl (fun s => ?_) (fun s => ?_) | refine t_cond_n rfl (fun s => ?_) (fun s => ?_) | refine t_cond rfl (fun s => ?_) (fun s => ?_)
        · refine t_seq ?_
          refine t_region ?_
          refine o_alloc1 rfl ty_zero3 rfl (fun b11 => ?_)
          apply o_storeL rfl rfl rfl ty_size3 rfl
          · repeat (first | with_reducible exact .here | apply Take.there)
          · repeat (first | exact SetAt.here | apply SetAt.there)
          refine l_nil ?_
          refine n_code ?_
          refine t_seq ?_
          refine t_seq ?_
          refine t_region ?_
          apply l_q rfl
          · apply q_loadL rfl ty_agg30
            · repeat (first | with_reducible exact .here | apply Take.there)
            · repeat (first | exact GetAt.here | apply GetAt.there)
          refine l_nil ?_
          refine n_code ?_
          refine t_block ?_
          apply t_rangeN (p := (fun m (_ : Unit) => True)) (J := (fun m _ => [pt b11 (.cells #[.int .i64 (m : Nat)] 3 (0, 0)), pt b7 (.cells #[.slice (some ⟨gb, 0, none⟩) (grp groups) cap] 27 (0, 0)), ownS 3 1 (.slice (some ⟨gb, 0, none⟩) (grp groups) cap) (grp groups) (wayV home (grp groups) (grp groups))])) (q := (fun _ (y : Code × Unit) => False)) (Jx := (fun _ _ => [])) (x0 := ()) (hc := order_it _ _ home hh groups) (hr := rfl) (hg := rfl)
          · repeat (first | with_reducible exact .here | apply Take.there)
          · repeat (first | with_reducible exact .nil | apply Pick.cons | with_reducible exact .here | apply Take.there)
          · trivial
          · (try dsimp only); (try simp only [Int.natCast_zero, Nat.sub_zero]); repeat (first | with_reducible exact .nil | apply Pick.cons | with_reducible exact .here | apply Take.there)
          · rfl
          · exact way_one _ _
          · intro l' rc' Fr'' w2 m x j' hrd' hpn' hx' hj'
            obtain ⟨hm, rfl⟩ := way_get hx'
            refine t_norm fun M hM => ?_
            try simp only [List.cons_append, List.nil_append, List.append_nil] at hM
            subst M
            refine t_region ?_
            refine l_q rfl (q_assign rfl) ?_
            refine l_nil ?_
            apply n_begin
            · repeat (first | with_reducible exact .here | apply Take.there)
            · assumption
            refine t_block ?_
            refine t_seq ?_
            refine t_seq ?_
            refine t_region ?_
            apply l_q rfl
            · apply q_loadL rfl ty_agg3
              · repeat (first | with_reducible exact .here | apply Take.there)
              · repeat (first | exact GetAt.here | apply GetAt.there)
            apply l_q rfl
            · apply q_loadL rfl ty_agg27
              · repeat (first | with_reducible exact .here | apply Take.there)
              · repeat (first | exact GetAt.here | apply GetAt.there)
            refine l_q rfl (q_len rfl (fun w => len_slice Try.underlying27 w)) ?_
            apply l_q rfl
            · apply q_bin rfl rfl (fun w => g_int w); exact fun w => b_geq w
            refine l_q rfl (q_move rfl) ?_
            first | refine l_part_d (t := 47) rfl (fun q' => ?_) (fun q' => ?_) | refine l_part_n (t := 47) rfl (fun q' => ?_) (fun q' => ?_) | refine l_part (t := 47) rfl (fun q' => ?_) (fun q' => ?_)
            · omega
            · refine l_on rfl rfl ?_
              refine l_q rfl (q_move rfl) ?_
              refine l_on rfl rfl ?_
              apply l_q rfl
              · apply q_loadL rfl ty_agg27
                · repeat (first | with_reducible exact .here | apply Take.there)
                · repeat (first | exact GetAt.here | apply GetAt.there)
              refine l_on rfl rfl ?_
              apply l_q rfl
              · apply q_loadL rfl ty_agg3
                · repeat (first | with_reducible exact .here | apply Take.there)
                · repeat (first | exact GetAt.here | apply GetAt.there)
              refine l_on rfl rfl ?_
              refine l_q rfl (q_indexAddr1 rfl rfl Try.underlying27 ty_size3 (by omega)) ?_
              refine l_on rfl rfl ?_
              apply l_q rfl
              · apply q_loadOwn rfl ty_agg3
                · repeat (first | with_reducible exact .here | apply Take.there)
                · rw [show 0 + ((m : Nat) : Int).toNat = m by omega, wayV_at (by omega)]
              refine l_on rfl rfl ?_
              apply l_q rfl
              · apply q_bin rfl rfl (fun w => g_int w); exact fun w => b_neq w
              apply l_q rfl
              · first | exact q_pick_t rfl rfl | exact q_pick_f rfl rfl
              refine l_nil ?_
              refine n_code ?_
              first | refine t_cond_d rfl (fun z' => ?_) (fun z' => ?_) | refine t_cond_n rfl (fun z' => ?_) (fun z' => ?_) | refine t_cond rfl (fun z' => ?_) (fun z' => ?_)
              · exact absurd rfl z'
              · refine t_skip ?_
                refine n_code ?_
                refine t_region ?_
                apply l_q rfl
                · apply q_loadL rfl ty_agg3
                  · repeat (first | with_reducible exact .here | apply Take.there)
                  · repeat (first | exact GetAt.here | apply GetAt.there)
                apply l_q rfl
                · apply q_bin rfl rfl (fun w => g_int w); first | exact fun w => b_add_i w (by omega) | exact fun w => b_add w
                apply o_storeL rfl rfl rfl ty_size3 rfl
                · repeat (first | with_reducible exact .here | apply Take.there)
                · repeat (first | exact SetAt.here | apply SetAt.there)
                refine l_nil ?_
                refine n_blk ?_
                apply r_next (by assumption) (by assumption) (()) (trivial)
                first | exact Ent.refl _ | ((try push_cast); apply Sel.ent; (repeat (first | apply Sel.cons | with_reducible exact Sel.nil | apply Sel.rest | with_reducible exact Take.here | apply Take.there | exact Drop.refl | apply Drop.skip)))
          · intro j' hj'
            rw [way_length]
            refine n_norm fun M hM => ?_
            try simp only [List.cons_append, List.nil_append, List.append_nil] at hM
            subst M
            refine n_blk ?_
            refine n_code ?_
            refine t_seq ?_
            refine t_seq ?_
            refine t_region ?_
            apply l_q rfl
            · apply q_loadL rfl ty_agg3
              · repeat (first | with_reducible exact .here | apply Take.there)
              · repeat (first | exact GetAt.here | apply GetAt.there)
            apply l_q rfl
            · apply q_loadL rfl ty_agg27
              · repeat (first | with_reducible exact .here | apply Take.there)
              · repeat (first | exact GetAt.here | apply GetAt.there)
            refine l_q rfl (q_len rfl (fun w => len_slice Try.underlying27 w)) ?_
            apply l_q rfl
            · apply q_bin rfl rfl (fun w => g_int w); exact fun w => b_neq w
            refine l_nil ?_
            refine n_code ?_
            first | refine t_cond_d rfl (fun u => ?_) (fun u => ?_) | refine t_cond_n rfl (fun u => ?_) (fun u => ?_) | refine t_cond rfl (fun u => ?_) (fun u => ?_)
            · exact absurd rfl u
            · refine t_skip ?_
              refine n_code ?_
              refine t_exit ?_
              refine x_miss rfl ?_
              apply r_left (.inr ⟨_, rfl, rfl⟩) (()) (⟨rfl, s⟩)
              first | exact Ent.refl _ | ((try push_cast); apply Sel.ent; (repeat (first | apply Sel.cons | with_reducible exact Sel.nil | apply Sel.rest | with_reducible exact Take.here | apply Take.there | exact Drop.refl | apply Drop.skip)))
          · rintro k' ⟨jc, y⟩ hk' hq'
            exact hq'.elim
        · refine t_skip ?_
          refine n_blk ?_
          apply r_next (by assumption) (by assumption) (()) (trivial)
          first | exact Ent.refl _ | ((try push_cast); apply Sel.ent; (repeat (first | apply Sel.cons | with_reducible exact Sel.nil | apply Sel.rest | with_reducible exact Take.here | apply Take.there | exact Drop.refl | apply Drop.skip)))
  · intro b j hj
    rw [way_length]
    refine n_norm fun M hM => ?_
    try simp only [List.cons_append, List.nil_append, List.append_nil] at hM
    subst M
    refine n_blk ?_
    refine n_code ?_
    refine t_seq ?_
    refine t_seq ?_
    refine t_region ?_
    apply l_q rfl
    · apply q_loadL rfl ty_agg3
      · repeat (first | with_reducible exact .here | apply Take.there)
      · repeat (first | exact GetAt.here | apply GetAt.there)
    apply l_q rfl
    · apply q_loadL rfl ty_agg27
      · repeat (first | with_reducible exact .here | apply Take.there)
      · repeat (first | exact GetAt.here | apply GetAt.there)
    refine l_q rfl (q_len rfl (fun w => len_slice Try.underlying27 w)) ?_
    apply l_q rfl
    · apply q_bin rfl rfl (fun w => g_int w); exact fun w => b_neq w
    refine l_q rfl (q_move rfl) ?_
    first | refine l_part_d (t := 65) rfl (fun k => ?_) (fun k => ?_) | refine l_part_n (t := 65) rfl (fun k => ?_) (fun k => ?_) | refine l_part (t := 65) rfl (fun k => ?_) (fun k => ?_)
    · exact absurd rfl k
    · refine l_off rfl rfl rfl rfl ?_
      refine l_off rfl rfl rfl rfl ?_
      refine l_off rfl rfl rfl rfl ?_
      apply l_q rfl
      · first | exact q_pick_t rfl rfl | exact q_pick_f rfl rfl
      refine l_nil ?_
      refine n_code ?_
      refine t_cond_f rfl ?_
      refine t_skip ?_
      refine n_code ?_
      refine t_seq ?_
      refine t_region ?_
      apply o_storeL rfl rfl rfl ty_size3 rfl
      · repeat (first | with_reducible exact .here | apply Take.there)
      · repeat (first | exact SetAt.here | apply SetAt.there)
      refine l_nil ?_
      refine n_code ?_
      refine t_seq ?_
      refine t_seq ?_
      refine t_region ?_
      apply l_q rfl
      · apply q_loadL rfl ty_agg30
        · repeat (first | with_reducible exact .here | apply Take.there)
        · repeat (first | exact GetAt.here | apply GetAt.there)
      refine l_nil ?_
      refine n_code ?_
      refine t_block ?_
      apply t_range (p := (fun k (_ : Unit) => True)) (J := (fun k _ => [pt b9 (.cells #[.int .i64 (k : Nat)] 3 (0, 0)), pt b7 (.cells #[.slice a (grp groups) cap] 27 (0, 0)), ownS 3 1 (.slice a (grp groups) cap) (grp groups) (wayV home (grp groups) (grp groups))])) (q := (fun _ (y : Code × Unit) => False)) (Jx := (fun _ _ => [])) (x0 := ()) (hc := order_it _ _ home hh groups) (hr := rfl) (hg := rfl)
      · repeat (first | with_reducible exact .nil | apply Pick.cons | with_reducible exact .here | apply Take.there)
      · trivial
      · (try dsimp only); (try simp only [Int.natCast_zero, Nat.sub_zero]); repeat (first | with_reducible exact .nil | apply Pick.cons | with_reducible exact .here | apply Take.there)
      · rfl
      · exact way_one _ _
      · intro l rc Fr' w1 m x j hrd hpn hx hj
        obtain ⟨hm, rfl⟩ := way_get hx
        obtain ⟨gb, rfl⟩ := ha (by omega)
        refine t_norm fun M hM => ?_
        try simp only [List.cons_append, List.nil_append, List.append_nil] at hM
        subst M
        refine t_region ?_
        refine l_q rfl (q_assign rfl) ?_
        refine l_nil ?_
        apply n_begin
        · repeat (first | with_reducible exact .here | apply Take.there)
        · assumption
        refine t_block ?_
        refine t_seq ?_
        refine t_seq ?_
        refine t_region ?_
        apply l_q rfl
        · apply q_loadL rfl ty_agg3
          · repeat (first | with_reducible exact .here | apply Take.there)
          · repeat (first | exact GetAt.here | apply GetAt.there)
        apply l_q rfl
        · apply q_loadL rfl ty_agg27
          · repeat (first | with_reducible exact .here | apply Take.there)
          · repeat (first | exact GetAt.here | apply GetAt.there)
        refine l_q rfl (q_len rfl (fun w => len_slice Try.underlying27 w)) ?_
        apply l_q rfl
        · apply q_bin rfl rfl (fun w => g_int w); exact fun w => b_geq w
        refine l_q rfl (q_move rfl) ?_
        first | refine l_part_d (t := 76) rfl (fun q => ?_) (fun q => ?_) | refine l_part_n (t := 76) rfl (fun q => ?_) (fun q => ?_) | refine l_part (t := 76) rfl (fun q => ?_) (fun q => ?_)
        · omega
        · refine l_on rfl rfl ?_
          refine l_q rfl (q_move rfl) ?_
          refine l_on rfl rfl ?_
          apply l_q rfl
          · apply q_loadL rfl ty_agg27
            · repeat (first | with_reducible exact .here | apply Take.there)
            · repeat (first | exact GetAt.here | apply GetAt.there)
          refine l_on rfl rfl ?_
          apply l_q rfl
          · apply q_loadL rfl ty_agg3
            · repeat (first | with_reducible exact .here | apply Take.there)
            · repeat (first | exact GetAt.here | apply GetAt.there)
          refine l_on rfl rfl ?_
          refine l_q rfl (q_indexAddr1 rfl rfl Try.underlying27 ty_size3 (by omega)) ?_
          refine l_on rfl rfl ?_
          apply l_q rfl
          · apply q_loadOwn rfl ty_agg3
            · repeat (first | with_reducible exact .here | apply Take.there)
            · rw [show 0 + ((m : Nat) : Int).toNat = m by omega, wayV_at (by omega)]
          refine l_on rfl rfl ?_
          apply l_q rfl
          · apply q_bin rfl rfl (fun w => g_int w); exact fun w => b_neq w
          apply l_q rfl
          · first | exact q_pick_t rfl rfl | exact q_pick_f rfl rfl
          refine l_nil ?_
          refine n_code ?_
          first | refine t_cond_d rfl (fun z => ?_) (fun z => ?_) | refine t_cond_n rfl (fun z => ?_) (fun z => ?_) | refine t_cond rfl (fun z => ?_) (fun z => ?_)
          · exact absurd rfl z
          · refine t_skip ?_
            refine n_code ?_
            refine t_region ?_
            apply l_q rfl
            · apply q_loadL rfl ty_agg3
              · repeat (first | with_reducible exact .here | apply Take.there)
              · repeat (first | exact GetAt.here | apply GetAt.there)
            apply l_q rfl
            · apply q_bin rfl rfl (fun w => g_int w); first | exact fun w => b_add_i w (by omega) | exact fun w => b_add w
            apply o_storeL rfl rfl rfl ty_size3 rfl
            · repeat (first | with_reducible exact .here | apply Take.there)
            · repeat (first | exact SetAt.here | apply SetAt.there)
            refine l_nil ?_
            refine n_blk ?_
            apply r_next (by assumption) (by assumption) (()) (trivial)
            first | exact Ent.refl _ | ((try push_cast); apply Sel.ent; (repeat (first | apply Sel.cons | with_reducible exact Sel.nil | apply Sel.rest | with_reducible exact Take.here | apply Take.there | exact Drop.refl | apply Drop.skip)))
      · intro b' j hj
        rw [way_length]
        refine n_norm fun M hM => ?_
        try simp only [List.cons_append, List.nil_append, List.append_nil] at hM
        subst M
        refine n_blk ?_
        refine n_code ?_
        refine t_seq ?_
        refine t_region ?_
        apply l_q rfl
        · apply q_loadL rfl ty_agg3
          · repeat (first | with_reducible exact .here | apply Take.there)
          · repeat (first | exact GetAt.here | apply GetAt.there)
        apply l_q rfl
        · apply q_loadL rfl ty_agg27
          · repeat (first | with_reducible exact .here | apply Take.there)
          · repeat (first | exact GetAt.here | apply GetAt.there)
        refine l_q rfl (q_len rfl (fun w => len_slice Try.underlying27 w)) ?_
        apply l_q rfl
        · apply q_bin rfl rfl (fun w => g_int w); exact fun w => b_eql w
        apply o_storeL rfl rfl rfl ty_size4 rfl
        · repeat (first | with_reducible exact .here | apply Take.there)
        · repeat (first | exact SetAt.here | apply SetAt.there)
        refine l_nil ?_
        refine n_code ?_
        refine t_ret ?_
        apply f_retm (.inl rfl) [b', b] ([])
        · repeat (first | with_reducible exact TakeM.nil | apply TakeM.cons | with_reducible exact Take.here | apply Take.there)
        · apply res1 rfl
          · apply Rv.cellL rfl
            · repeat (first | with_reducible exact .here | apply Take.there)
            · repeat (first | exact GetAt.here | apply GetAt.there)
            · exact ty_agg4
        · exact ⟨by simp, rfl⟩
        · first | exact Ent.refl _ | ((try push_cast); apply Sel.ent; (repeat (first | apply Sel.cons | with_reducible exact Sel.nil | apply Sel.rest | with_reducible exact Take.here | apply Take.there | exact Drop.refl | apply Drop.skip)))
      · rintro b' k' ⟨jc, y⟩ hk hq
        exact hq.elim
  · rintro b k ⟨jc, y⟩ hk ⟨rfl, hs⟩
    refine t_norm fun M hM => ?_
    try simp only [List.cons_append, List.nil_append, List.append_nil] at hM
    subst M
    refine t_exit ?_
    refine x_hit ?_
    refine n_code ?_
    refine t_seq ?_
    refine t_seq ?_
    refine t_region ?_
    apply l_q rfl
    · apply q_loadL rfl ty_agg3
      · repeat (first | with_reducible exact .here | apply Take.there)
      · repeat (first | exact GetAt.here | apply GetAt.there)
    apply l_q rfl
    · apply q_loadL rfl ty_agg27
      · repeat (first | with_reducible exact .here | apply Take.there)
      · repeat (first | exact GetAt.here | apply GetAt.there)
    refine l_q rfl (q_len rfl (fun w => len_slice Try.underlying27 w)) ?_
    apply l_q rfl
    · apply q_bin rfl rfl (fun w => g_int w); exact fun w => b_neq w
    refine l_q rfl (q_move rfl) ?_
    first | refine l_part_d (t := 65) rfl (fun q => ?_) (fun q => ?_) | refine l_part_n (t := 65) rfl (fun q => ?_) (fun q => ?_) | refine l_part (t := 65) rfl (fun q => ?_) (fun q => ?_)
    · refine l_on rfl rfl ?_
      apply l_q rfl
      · apply q_loadL rfl ty_agg3
        · repeat (first | with_reducible exact .here | apply Take.there)
        · repeat (first | exact GetAt.here | apply GetAt.there)
      refine l_on rfl rfl ?_
      apply l_q rfl
      · apply q_loadL rfl ty_agg3
        · repeat (first | with_reducible exact .here | apply Take.there)
        · repeat (first | exact GetAt.here | apply GetAt.there)
      refine l_on rfl rfl ?_
      apply l_q rfl
      · apply q_bin rfl rfl (fun w => g_int w); exact fun w => b_neq w
      apply l_q rfl
      · first | exact q_pick_t rfl rfl | exact q_pick_f rfl rfl
      refine l_nil ?_
      refine n_code ?_
      first | refine t_cond_d rfl (fun u => ?_) (fun u => ?_) | refine t_cond_n rfl (fun u => ?_) (fun u => ?_) | refine t_cond rfl (fun u => ?_) (fun u => ?_)
      · exact absurd hs u
      · refine t_skip ?_
        refine n_code ?_
        refine t_seq ?_
        refine t_region ?_
        apply o_storeL rfl rfl rfl ty_size3 rfl
        · repeat (first | with_reducible exact .here | apply Take.there)
        · repeat (first | exact SetAt.here | apply SetAt.there)
        refine l_nil ?_
        refine n_code ?_
        refine t_seq ?_
        refine t_seq ?_
        refine t_region ?_
        apply l_q rfl
        · apply q_loadL rfl ty_agg30
          · repeat (first | with_reducible exact .here | apply Take.there)
          · repeat (first | exact GetAt.here | apply GetAt.there)
        refine l_nil ?_
        refine n_code ?_
        refine t_block ?_
        apply t_range (p := (fun k (_ : Unit) => True)) (J := (fun k _ => [pt b9 (.cells #[.int .i64 (k : Nat)] 3 (0, 0)), pt b7 (.cells #[.slice a (grp groups) cap] 27 (0, 0)), ownS 3 1 (.slice a (grp groups) cap) (grp groups) (wayV home (grp groups) (grp groups))])) (q := (fun _ (y : Code × Unit) => False)) (Jx := (fun _ _ => [])) (x0 := ()) (hc := order_it _ _ home hh groups) (hr := rfl) (hg := rfl)
        · repeat (first | with_reducible exact .nil | apply Pick.cons | with_reducible exact .here | apply Take.there)
        · trivial
        · (try dsimp only); (try simp only [Int.natCast_zero, Nat.sub_zero]); repeat (first | with_reducible exact .nil | apply Pick.cons | with_reducible exact .here | apply Take.there)
        · rfl
        · exact way_one _ _
        · intro l rc Fr' w1 m x j hrd hpn hx hj
          obtain ⟨hm, rfl⟩ := way_get hx
          obtain ⟨gb, rfl⟩ := ha (by omega)
          refine t_norm fun M hM => ?_
          try simp only [List.cons_append, List.nil_append, List.append_nil] at hM
          subst M
          refine t_region ?_
          refine l_q rfl (q_assign rfl) ?_
          refine l_nil ?_
          apply n_begin
          · repeat (first | with_reducible exact .here | apply Take.there)
          · assumption
          refine t_block ?_
          refine t_seq ?_
          refine t_seq ?_
          refine t_region ?_
          apply l_q rfl
          · apply q_loadL rfl ty_agg3
            · repeat (first | with_reducible exact .here | apply Take.there)
            · repeat (first | exact GetAt.here | apply GetAt.there)
          apply l_q rfl
          · apply q_loadL rfl ty_agg27
            · repeat (first | with_reducible exact .here | apply Take.there)
            · repeat (first | exact GetAt.here | apply GetAt.there)
          refine l_q rfl (q_len rfl (fun w => len_slice Try.underlying27 w)) ?_
          apply l_q rfl
          · apply q_bin rfl rfl (fun w => g_int w); exact fun w => b_geq w
          refine l_q rfl (q_move rfl) ?_
          first | refine l_part_d (t := 76) rfl (fun q => ?_) (fun q => ?_) | refine l_part_n (t := 76) rfl (fun q => ?_) (fun q => ?_) | refine l_part (t := 76) rfl (fun q => ?_) (fun q => ?_)
          · omega
          · refine l_on rfl rfl ?_
            refine l_q rfl (q_move rfl) ?_
            refine l_on rfl rfl ?_
            apply l_q rfl
            · apply q_loadL rfl ty_agg27
              · repeat (first | with_reducible exact .here | apply Take.there)
              · repeat (first | exact GetAt.here | apply GetAt.there)
            refine l_on rfl rfl ?_
            apply l_q rfl
            · apply q_loadL rfl ty_agg3
              · repeat (first | with_reducible exact .here | apply Take.there)
              · repeat (first | exact GetAt.here | apply GetAt.there)
            refine l_on rfl rfl ?_
            refine l_q rfl (q_indexAddr1 rfl rfl Try.underlying27 ty_size3 (by omega)) ?_
            refine l_on rfl rfl ?_
            apply l_q rfl
            · apply q_loadOwn rfl ty_agg3
              · repeat (first | with_reducible exact .here | apply Take.there)
              · rw [show 0 + ((m : Nat) : Int).toNat = m by omega, wayV_at (by omega)]
            refine l_on rfl rfl ?_
            apply l_q rfl
            · apply q_bin rfl rfl (fun w => g_int w); exact fun w => b_neq w
            apply l_q rfl
            · first | exact q_pick_t rfl rfl | exact q_pick_f rfl rfl
            refine l_nil ?_
            refine n_code ?_
            first | refine t_cond_d rfl (fun z => ?_) (fun z => ?_) | refine t_cond_n rfl (fun z => ?_) (fun z => ?_) | refine t_cond rfl (fun z => ?_) (fun z => ?_)
            · exact absurd rfl z
            · refine t_skip ?_
              refine n_code ?_
              refine t_region ?_
              apply l_q rfl
              · apply q_loadL rfl ty_agg3
                · repeat (first | with_reducible exact .here | apply Take.there)
                · repeat (first | exact GetAt.here | apply GetAt.there)
              apply l_q rfl
              · apply q_bin rfl rfl (fun w => g_int w); first | exact fun w => b_add_i w (by omega) | exact fun w => b_add w
              apply o_storeL rfl rfl rfl ty_size3 rfl
              · repeat (first | with_reducible exact .here | apply Take.there)
              · repeat (first | exact SetAt.here | apply SetAt.there)
              refine l_nil ?_
              refine n_blk ?_
              apply r_next (by assumption) (by assumption) (()) (trivial)
              first | exact Ent.refl _ | ((try push_cast); apply Sel.ent; (repeat (first | apply Sel.cons | with_reducible exact Sel.nil | apply Sel.rest | with_reducible exact Take.here | apply Take.there | exact Drop.refl | apply Drop.skip)))
        · intro b' j hj
          rw [way_length]
          refine n_norm fun M hM => ?_
          try simp only [List.cons_append, List.nil_append, List.append_nil] at hM
          subst M
          refine n_blk ?_
          refine n_code ?_
          refine t_seq ?_
          refine t_region ?_
          apply l_q rfl
          · apply q_loadL rfl ty_agg3
            · repeat (first | with_reducible exact .here | apply Take.there)
            · repeat (first | exact GetAt.here | apply GetAt.there)
          apply l_q rfl
          · apply q_loadL rfl ty_agg27
            · repeat (first | with_reducible exact .here | apply Take.there)
            · repeat (first | exact GetAt.here | apply GetAt.there)
          refine l_q rfl (q_len rfl (fun w => len_slice Try.underlying27 w)) ?_
          apply l_q rfl
          · apply q_bin rfl rfl (fun w => g_int w); exact fun w => b_eql w
          apply o_storeL rfl rfl rfl ty_size4 rfl
          · repeat (first | with_reducible exact .here | apply Take.there)
          · repeat (first | exact SetAt.here | apply SetAt.there)
          refine l_nil ?_
          refine n_code ?_
          refine t_ret ?_
          apply f_retm (.inl rfl) [b', b] ([])
          · repeat (first | with_reducible exact TakeM.nil | apply TakeM.cons | with_reducible exact Take.here | apply Take.there)
          · apply res1 rfl
            · apply Rv.cellL rfl
              · repeat (first | with_reducible exact .here | apply Take.there)
              · repeat (first | exact GetAt.here | apply GetAt.there)
              · exact ty_agg4
          · exact ⟨by simp, rfl⟩
          · first | exact Ent.refl _ | ((try push_cast); apply Sel.ent; (repeat (first | apply Sel.cons | with_reducible exact Sel.nil | apply Sel.rest | with_reducible exact Take.here | apply Take.there | exact Drop.refl | apply Drop.skip)))
        · rintro b' k' ⟨jc, y⟩ hk hq
          exact hq.elim
    · refine l_off rfl rfl rfl rfl ?_
      refine l_off rfl rfl rfl rfl ?_
      refine l_off rfl rfl rfl rfl ?_
      apply l_q rfl
      · first | exact q_pick_t rfl rfl | exact q_pick_f rfl rfl
      refine l_nil ?_
      refine n_code ?_
      refine t_cond_f rfl ?_
      refine t_skip ?_
      refine n_code ?_
      refine t_seq ?_
      refine t_region ?_
      apply o_storeL rfl rfl rfl ty_size3 rfl
      · repeat (first | with_reducible exact .here | apply Take.there)
      · repeat (first | exact SetAt.here | apply SetAt.there)
      refine l_nil ?_
      refine n_code ?_
      refine t_seq ?_
      refine t_seq ?_
      refine t_region ?_
      apply l_q rfl
      · apply q_loadL rfl ty_agg30
        · repeat (first | with_reducible exact .here | apply Take.there)
        · repeat (first | exact GetAt.here | apply GetAt.there)
      refine l_nil ?_
      refine n_code ?_
      refine t_block ?_
      apply t_range (p := (fun k (_ : Unit) => True)) (J := (fun k _ => [pt b9 (.cells #[.int .i64 (k : Nat)] 3 (0, 0)), pt b7 (.cells #[.slice a (grp groups) cap] 27 (0, 0)), ownS 3 1 (.slice a (grp groups) cap) (grp groups) (wayV home (grp groups) (grp groups))])) (q := (fun _ (y : Code × Unit) => False)) (Jx := (fun _ _ => [])) (x0 := ()) (hc := order_it _ _ home hh groups) (hr := rfl) (hg := rfl)
      · repeat (first | with_reducible exact .nil | apply Pick.cons | with_reducible exact .here | apply Take.there)
      · trivial
      · (try dsimp only); (try simp only [Int.natCast_zero, Nat.sub_zero]); repeat (first | with_reducible exact .nil | apply Pick.cons | with_reducible exact .here | apply Take.there)
      · rfl
      · exact way_one _ _
      · intro l rc Fr' w1 m x j hrd hpn hx hj
        obtain ⟨hm, rfl⟩ := way_get hx
        obtain ⟨gb, rfl⟩ := ha (by omega)
        refine t_norm fun M hM => ?_
        try simp only [List.cons_append, List.nil_append, List.append_nil] at hM
        subst M
        refine t_region ?_
        refine l_q rfl (q_assign rfl) ?_
        refine l_nil ?_
        apply n_begin
        · repeat (first | with_reducible exact .here | apply Take.there)
        · assumption
        refine t_block ?_
        refine t_seq ?_
        refine t_seq ?_
        refine t_region ?_
        apply l_q rfl
        · apply q_loadL rfl ty_agg3
          · repeat (first | with_reducible exact .here | apply Take.there)
          · repeat (first | exact GetAt.here | apply GetAt.there)
        apply l_q rfl
        · apply q_loadL rfl ty_agg27
          · repeat (first | with_reducible exact .here | apply Take.there)
          · repeat (first | exact GetAt.here | apply GetAt.there)
        refine l_q rfl (q_len rfl (fun w => len_slice Try.underlying27 w)) ?_
        apply l_q rfl
        · apply q_bin rfl rfl (fun w => g_int w); exact fun w => b_geq w
        refine l_q rfl (q_move rfl) ?_
        first | refine l_part_d (t := 76) rfl (fun q => ?_) (fun q => ?_) | refine l_part_n (t := 76) rfl (fun q => ?_) (fun q => ?_) | refine l_part (t := 76) rfl (fun q => ?_) (fun q => ?_)
        · omega
        · refine l_on rfl rfl ?_
          refine l_q rfl (q_move rfl) ?_
          refine l_on rfl rfl ?_
          apply l_q rfl
          · apply q_loadL rfl ty_agg27
            · repeat (first | with_reducible exact .here | apply Take.there)
            · repeat (first | exact GetAt.here | apply GetAt.there)
          refine l_on rfl rfl ?_
          apply l_q rfl
          · apply q_loadL rfl ty_agg3
            · repeat (first | with_reducible exact .here | apply Take.there)
            · repeat (first | exact GetAt.here | apply GetAt.there)
          refine l_on rfl rfl ?_
          refine l_q rfl (q_indexAddr1 rfl rfl Try.underlying27 ty_size3 (by omega)) ?_
          refine l_on rfl rfl ?_
          apply l_q rfl
          · apply q_loadOwn rfl ty_agg3
            · repeat (first | with_reducible exact .here | apply Take.there)
            · rw [show 0 + ((m : Nat) : Int).toNat = m by omega, wayV_at (by omega)]
          refine l_on rfl rfl ?_
          apply l_q rfl
          · apply q_bin rfl rfl (fun w => g_int w); exact fun w => b_neq w
          apply l_q rfl
          · first | exact q_pick_t rfl rfl | exact q_pick_f rfl rfl
          refine l_nil ?_
          refine n_code ?_
          first | refine t_cond_d rfl (fun z => ?_) (fun z => ?_) | refine t_cond_n rfl (fun z => ?_) (fun z => ?_) | refine t_cond rfl (fun z => ?_) (fun z => ?_)
          · exact absurd rfl z
          · refine t_skip ?_
            refine n_code ?_
            refine t_region ?_
            apply l_q rfl
            · apply q_loadL rfl ty_agg3
              · repeat (first | with_reducible exact .here | apply Take.there)
              · repeat (first | exact GetAt.here | apply GetAt.there)
            apply l_q rfl
            · apply q_bin rfl rfl (fun w => g_int w); first | exact fun w => b_add_i w (by omega) | exact fun w => b_add w
            apply o_storeL rfl rfl rfl ty_size3 rfl
            · repeat (first | with_reducible exact .here | apply Take.there)
            · repeat (first | exact SetAt.here | apply SetAt.there)
            refine l_nil ?_
            refine n_blk ?_
            apply r_next (by assumption) (by assumption) (()) (trivial)
            first | exact Ent.refl _ | ((try push_cast); apply Sel.ent; (repeat (first | apply Sel.cons | with_reducible exact Sel.nil | apply Sel.rest | with_reducible exact Take.here | apply Take.there | exact Drop.refl | apply Drop.skip)))
      · intro b' j hj
        rw [way_length]
        refine n_norm fun M hM => ?_
        try simp only [List.cons_append, List.nil_append, List.append_nil] at hM
        subst M
        refine n_blk ?_
        refine n_code ?_
        refine t_seq ?_
        refine t_region ?_
        apply l_q rfl
        · apply q_loadL rfl ty_agg3
          · repeat (first | with_reducible exact .here | apply Take.there)
          · repeat (first | exact GetAt.here | apply GetAt.there)
        apply l_q rfl
        · apply q_loadL rfl ty_agg27
          · repeat (first | with_reducible exact .here | apply Take.there)
          · repeat (first | exact GetAt.here | apply GetAt.there)
        refine l_q rfl (q_len rfl (fun w => len_slice Try.underlying27 w)) ?_
        apply l_q rfl
        · apply q_bin rfl rfl (fun w => g_int w); exact fun w => b_eql w
        apply o_storeL rfl rfl rfl ty_size4 rfl
        · repeat (first | with_reducible exact .here | apply Take.there)
        · repeat (first | exact SetAt.here | apply SetAt.there)
        refine l_nil ?_
        refine n_code ?_
        refine t_ret ?_
        apply f_retm (.inl rfl) [b', b] ([])
        · repeat (first | with_reducible exact TakeM.nil | apply TakeM.cons | with_reducible exact Take.here | apply Take.there)
        · apply res1 rfl
          · apply Rv.cellL rfl
            · repeat (first | with_reducible exact .here | apply Take.there)
            · repeat (first | exact GetAt.here | apply GetAt.there)
            · exact ty_agg4
        · exact ⟨by simp, rfl⟩
        · first | exact Ent.refl _ | ((try push_cast); apply Sel.ent; (repeat (first | apply Sel.cons | with_reducible exact Sel.nil | apply Sel.rest | with_reducible exact Take.here | apply Take.there | exact Drop.refl | apply Drop.skip)))
      · rintro b' k' ⟨jc, y⟩ hk hq
        exact hq.elim
end Go.Proofs.Ytbooplbhlmiihaa.Probe
