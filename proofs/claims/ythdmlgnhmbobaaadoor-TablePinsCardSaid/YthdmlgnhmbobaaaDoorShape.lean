/- The bench's shape: its counts are those of the cells, each key lies where its way reaches. -/
import Derived.Test.YthdmlgnhmbobaaaDoorBenchN
import Derived.Test.YthdmlgnhmbobaaaDoorShapeB
set_option linter.unusedVariables false
set_option linter.unusedSimpArgs false
set_option maxRecDepth 100000
namespace Go.Proofs.YthdmlgnhmbobaaaDoor.Bench
open Go.RowKit Go.Proofs Go.Proofs.YthdmlgnhmbobaaaDoor.Eng Go.Proofs.YthdmlgnhmbobaaaDoor.Ty Go.Proofs.YthdmlgnhmbobaaaDoor.Bits Go.Proofs.YthdmlgnhmbobaaaDoor.Mem Go.Proofs.YthdmlgnhmbobaaaDoor.Search Go.Proofs.YthdmlgnhmbobaaaDoor.Arena Go.Proofs.YthdmlgnhmbobaaaDoor.CtrlB Go.Proofs.YthdmlgnhmbobaaaDoor.Ctrl Go.Proofs.YthdmlgnhmbobaaaDoor.Layout Go.Proofs.YthdmlgnhmbobaaaDoor.GroupB Go.Proofs.YthdmlgnhmbobaaaDoor.Group Go.Proofs.YthdmlgnhmbobaaaDoor.Probe Go.Proofs.YthdmlgnhmbobaaaDoor.TableB Go.Proofs.YthdmlgnhmbobaaaDoor.TableI Go.Proofs.YthdmlgnhmbobaaaDoor.Table Go.Proofs.YthdmlgnhmbobaaaDoor.Ref03


theorem of_dec {p : Prop} {i : Decidable p} (h : decide p = true) : p := of_decide_eq_true h
theorem ahead_ok (be cap n e g : Nat) (home : Int) (hh : 0 ≤ home ∧ home < 144115188075855872) (he : e ≤ 13) (hn : n = 2 ^ e) (cells : Nat → Cell) (hg : ∃ j, j < n ∧ gk home n j = g ∧ ∀ i, i < j → empAt home n cells i = 8) :
    FnOk Tryd.prog 61 #[.int .u64 home, .int .i64 (n : Nat), .int .i64 (g : Nat), .slice (some ⟨be, 0, none⟩) n cap] [ownS 3 1 (.slice (some ⟨be, 0, none⟩) n cap) n (cntL isEmp cells n (8 * n))]
      (fun v L => v = .bool true ∧ L = [ownS 3 1 (.slice (some ⟨be, 0, none⟩) n cap) n (cntL isEmp cells n (8 * n))]) := by
  obtain ⟨j0, hj0, hgj, hem⟩ := hg
  have hn0 : 0 < n := by omega
  refine fn_intro en61 Tryd.func61 rfl rfl rfl ?_
  intro Fr w0
  refine t_nm ?_
  refine t_seq ?_
  refine t_region ?_
  refine o_box1 rfl rfl rfl (fun b6 => ?_)
  refine o_box1 rfl rfl rfl (fun b7 => ?_)
  refine o_alloc1 rfl ty_zero4 rfl (fun b8 => ?_)
  refine l_nil ?_
  refine n_code ?_
  refine t_seq ?_
  refine t_seq ?_
  refine t_region ?_
  refine l_q rfl (q_move rfl) ?_
  refine l_q rfl (q_move rfl) ?_
  apply l_callf rfl rfl rfl (Order_n home he hn)
  · exact pk
  rintro v L' ⟨bh, bg, rfl, rfl⟩
  refine l_nm ?_
  refine l_nil ?_
  refine n_code ?_
  refine t_block ?_
  apply t_range (p := (fun k (_ : Unit) => k ≤ j0)) (J := (fun k _ => [pt b6 (.cells #[.int .i64 (g : Nat)] 3 (0, 0)), pt b7 (.cells #[.slice (some ⟨be, 0, none⟩) n cap] 22 (0, 0)), pt b8 (.cells #[.bool false] 4 (0, 0)), ownS 3 1 (.slice (some ⟨be, 0, none⟩) n cap) n (cntL isEmp cells n (8 * n))])) (q := (fun k (y : Code × Unit) => y.1 = .ret ∧ True)) (Jx := (fun k y => [pt b8 (.cells #[.bool true] 4 (0, 0)), ownS 3 1 (.slice (some ⟨be, 0, none⟩) n cap) n (cntL isEmp cells n (8 * n))])) (x0 := ()) (hc := order_itn _ _ home ⟨by omega, by omega⟩ he hn) (hr := rfl) (hg := rfl)
  · exact pk
  · omega
  · (try dsimp only); (try simp only [Int.natCast_zero, Nat.sub_zero]); exact pk
  · rfl
  · (intro x hx; simp only [way, List.mem_map] at hx; obtain ⟨_, _, rfl⟩ := hx; rfl)
  · intro ll rc Fr' w1 k x jj hrd hpn hx hj
    obtain ⟨hk', rfl⟩ := way_get hx
    rw [← gk_cast hn0]
    have hgk := gk_lt (home := home) (k := k) hn0
    refine t_nm ?_
    refine t_region ?_
    refine l_q rfl (q_assign rfl) ?_
    refine l_nil ?_
    apply n_begin
    · exact tk
    · assumption
    refine t_block ?_
    refine t_seq ?_
    refine t_seq ?_
    refine t_region ?_
    refine l_q rfl (q_move rfl) ?_
    refine l_q rfl (q_loadL rfl ty_agg3 tk ga) ?_
    apply l_q rfl
    · apply q_bin rfl rfl (fun w => g_int w); exact fun w => b_eql w
    refine l_nil ?_
    refine n_code ?_
    first | refine t_cond_d rfl (fun q1 => ?_) (fun q1 => ?_) | refine t_cond_n rfl (fun q1 => ?_) (fun q1 => ?_) | refine t_cond rfl (fun q1 => ?_) (fun q1 => ?_)
    · refine t_seq ?_
      refine t_region ?_
      apply o_storeL rfl rfl rfl ty_size4 rfl
      · exact tk
      · exact sa
      refine l_nil ?_
      refine n_code ?_
      refine t_ret ?_
      refine r_code ?_
      refine r_blk ?_
      apply r_left (.inl ⟨rfl, rfl⟩) (()) (⟨rfl, trivial⟩)
      exact en
    · refine t_skip ?_
      refine n_code ?_
      refine t_seq ?_
      refine t_region ?_
      refine l_q rfl (q_move rfl) ?_
      apply l_q rfl
      · apply q_bin rfl rfl (fun w => g_int w); exact fun w => b_lss w
      refine l_q rfl (q_move rfl) ?_
      have hkj : k < j0 := by
        rcases Nat.lt_or_ge k j0 with q | q
        · exact q
        · exfalso; apply q1; rw [show k = j0 by omega, hgj]
      have hget : (cntL isEmp cells n (8 * n))[0 + ((gk home n k : Nat) : Int).toNat]? = some (.int .i64 0) := by
        rw [Nat.zero_add, Int.toNat_natCast, cntL_get hgk, way_empty hk' (hem k hkj)]
      first | refine l_part_d (t := 19) rfl (fun p1 => ?_) (fun p1 => ?_) | refine l_part_n (t := 19) rfl (fun p1 => ?_) (fun p1 => ?_) | refine l_part (t := 19) rfl (fun p1 => ?_) (fun p1 => ?_)
      · omega
      · refine l_on rfl rfl ?_
        refine l_q rfl (q_move rfl) ?_
        refine l_on rfl rfl ?_
        refine l_q rfl (q_loadL rfl ty_agg22 tk ga) ?_
        refine l_on rfl rfl ?_
        refine l_q rfl (q_len rfl (fun w => len_slice Tryd.underlying22 w)) ?_
        refine l_on rfl rfl ?_
        apply l_q rfl
        · apply q_bin rfl rfl (fun w => g_int w); exact fun w => b_geq w
        first | refine l_q rfl (q_pick_t rfl rfl) ?_ | refine l_q rfl (q_pick_f rfl rfl) ?_
        refine l_q rfl (q_move rfl) ?_
        first | refine l_part_d (t := 25) rfl (fun p2 => ?_) (fun p2 => ?_) | refine l_part_n (t := 25) rfl (fun p2 => ?_) (fun p2 => ?_) | refine l_part (t := 25) rfl (fun p2 => ?_) (fun p2 => ?_)
        · omega
        · refine l_on rfl rfl ?_
          refine l_q rfl (q_loadL rfl ty_agg22 tk ga) ?_
          refine l_on rfl rfl ?_
          refine l_q rfl (q_move rfl) ?_
          refine l_on rfl rfl ?_
          refine l_q rfl (q_indexAddr1 rfl rfl Tryd.underlying22 ty_size3 (by omega)) ?_
          refine l_on rfl rfl ?_
          refine l_q rfl (q_loadOwn rfl ty_agg3 tk hget) ?_
          refine l_on rfl rfl ?_
          apply l_q rfl
          · apply q_bin rfl rfl (fun w => g_int w); exact fun w => b_gtr w
          first | refine l_q rfl (q_pick_t rfl rfl) ?_ | refine l_q rfl (q_pick_f rfl rfl) ?_
          refine l_nil ?_
          refine n_code ?_
          first | refine t_cond_d rfl (fun p3 => ?_) (fun p3 => ?_) | refine t_cond_n rfl (fun p3 => ?_) (fun p3 => ?_) | refine t_cond rfl (fun p3 => ?_) (fun p3 => ?_)
          · omega
          · refine t_skip ?_
            refine n_blk ?_
            apply r_next (by assumption) (by assumption) (()) (by omega)
            exact en
  · intro b jj hj
    rw [way_length] at hj
    omega
  · rintro b k ⟨jc, u⟩ hk2 ⟨rfl, _⟩
    refine t_nm ?_
    refine t_ret ?_
    refine r_blk ?_
    refine r_code ?_
    apply f_retm (.inl rfl) [b] ([ownS 3 1 (.slice (some ⟨be, 0, none⟩) n cap) n (cntL isEmp cells n (8 * n))])
    · repeat (first | with_reducible exact TakeM.nil | apply TakeM.cons | with_reducible exact Take.here | apply Take.there)
    · apply res1 rfl
      · apply Rv.cellL rfl
        · exact tk
        · exact ga
        · exact ty_agg4
    · exact ⟨rfl, rfl⟩
    · exact en
section
variable (pb pa off n e : Nat) (l : Lay) (vf vt lv : Value) (sl : Int) (lives : List Life)
variable (go : Nat) (s : ArS) (T : Tb) (ad : Int) (H : ByteArray → Int) (K : ByteArray → Prop) (added : Nat) (vh : Value)
theorem shape_ok (hP : TabP s off go l n e T) (hI : BI n H K T lives added) (hn : n ≤ 1024) (hhw : ∀ u ∈ lives, 0 ≤ u.hash ∧ u.hash < 18446744073709551616) :
    FnOk Tryd.prog 26 #[.pointer (some ⟨pb, 0, none⟩)] [pt pb (.cells #[.pointer (some ⟨pa, 0, none⟩), .int .i64 l.key, .int .i64 l.elem, .int .i64 l.ka, .int .i64 l.ea, .int .i64 l.cap, .int .i64 l.eo, .int .i64 l.bo, .int .i64 l.slot, .int .i64 l.group, .pointer (some ⟨pa, 0, none⟩), .int .i64 l.key, .int .i64 l.elem, .int .i64 l.ka, .int .i64 l.ea, .int .i64 l.cap, .int .i64 l.eo, .int .i64 l.bo, .int .i64 l.slot, .int .i64 l.group, .int .i64 ((off : Nat) : Int), vf, .int .i64 (8 * (n : Int)), vh, vt, lv, .int .i64 ad] 69 (0, 0)), ownS 145 5 lv lives.length (rowOf Life.cells lives), arenaH pa s]
      (fun v L => v = .bool true ∧ L = [pt pb (.cells #[.pointer (some ⟨pa, 0, none⟩), .int .i64 l.key, .int .i64 l.elem, .int .i64 l.ka, .int .i64 l.ea, .int .i64 l.cap, .int .i64 l.eo, .int .i64 l.bo, .int .i64 l.slot, .int .i64 l.group, .pointer (some ⟨pa, 0, none⟩), .int .i64 l.key, .int .i64 l.elem, .int .i64 l.ka, .int .i64 l.ea, .int .i64 l.cap, .int .i64 l.eo, .int .i64 l.bo, .int .i64 l.slot, .int .i64 l.group, .int .i64 ((off : Nat) : Int), vf, .int .i64 (8 * (n : Int)), vh, vt, lv, .int .i64 ad] 69 (0, 0)), ownS 145 5 lv lives.length (rowOf Life.cells lives), arenaH pa s]) := by
  have hn0 := hI.n0
  have hlen := hI.len
  have hused := hI.used
  have hu := hI.cnt.used
  have hl := hI.cnt.left
  have hz : ∀ p, cntL p T.cells n 0 = List.replicate n (Value.int .i64 0) := fun p => (cntL_zero n).symm
  have hq8 : (Value.int .i64 (8 * (n : Int) / 8)) = .int .i64 ((n : Nat) : Int) := by congr 1; omega
  refine fn_intro en26 Tryd.func26 rfl rfl rfl ?_
  intro Fr w0
  refine t_nm ?_
  refine t_shape (e := 145) (sz := 5) (v := lv) (n := lives.length) (xs := rowOf Life.cells lives) tk fun _ hsh => ?_
  obtain ⟨a0, cap, rfl, hsh, _, _⟩ := hsh
  refine t_seq ?_
  refine t_region ?_
  refine l_q rfl (q_assign rfl) ?_
  refine l_nil ?_
  refine n_code ?_
  refine t_seq ?_
  refine t_region ?_
  refine l_q rfl (q_move rfl) ?_
  refine l_q rfl (q_nilCheck rfl) ?_
  first | refine l_q rfl (q_fieldAddr0 10 rfl Tryd.underlying69 rfl rfl ty_size36) ?_ | refine l_q rfl (q_fieldAddrK 10 rfl Tryd.underlying69 rfl rfl ty_size36) ?_
  refine l_q rfl (q_loadAggL rfl ty_agg36 ty_size36 tk sb) ?_
  apply l_callf rfl rfl rfl (StatP_ok pa off go n e s l T hP)
  · exact pk
  rintro v L' ⟨rfl, rfl⟩
  refine l_nm ?_
  refine l_q rfl (q_move rfl) ?_
  refine l_q rfl (q_extractL rfl ga) ?_
  refine l_q rfl (q_extractL rfl ga) ?_
  refine o_allocA rfl ty_zero75 (fun b3 => ?_)
  apply o_storeAggL rfl rfl rfl ty_size75 rfl rfl (by simp)
  · exact tk
  · exact sal
  refine l_q rfl (q_assign rfl) ?_
  refine l_nil ?_
  refine n_code ?_
  refine t_seq ?_
  refine t_seq ?_
  refine t_draw mixed ?_
  refine d_q 0 gO rfl rfl rfl rfl (yq (q_move rfl)) ?_
  apply d_eff1 [0] [] 1 [(24, _)]
  · exact gO
  · exact ⟨rfl, trivial⟩
  · kernel_rfl
  · kernel_rfl
  intro Ex
  apply l_callf rfl rfl rfl (num08_ok _)
  · exact pk
  rintro v L' ⟨rfl, rfl⟩
  refine l_nm ?_
  refine l_nil ?_
  apply n_d
  · exact trivial
  apply d_q 2 gO rfl rfl rfl rfl
  · apply yq
    apply q_bin rfl rfl (fun w => g_int w); exact fun w => b_neq w
  refine d_q 3 gO rfl rfl rfl rfl (yq (q_move rfl)) ?_
  first | refine d_part_d (t := 27) rfl (fun p1 => ?_) (fun p1 => ?_) | refine d_part_n (t := 27) rfl (fun p1 => ?_) (fun p1 => ?_) | refine d_part (t := 27) rfl (fun p1 => ?_) (fun p1 => ?_)
  · exact absurd rfl p1
  · apply d_q 4 gO rfl rfl rfl rfl
    · apply yq_on rfl rfl
      first | exact q_fieldAddr0 1 rfl Tryd.underlying75 rfl rfl ty_size3 | exact q_fieldAddrK 1 rfl Tryd.underlying75 rfl rfl ty_size3
    refine d_q 5 gO rfl rfl rfl rfl (yq_on rfl rfl (q_loadL rfl ty_agg3 tk ga)) ?_
    refine d_q 6 gO rfl rfl rfl rfl (yq_on rfl rfl (q_move rfl)) ?_
    refine d_q 7 gO rfl rfl rfl rfl (yq_on rfl rfl (q_nilCheck rfl)) ?_
    apply d_q 8 gO rfl rfl rfl rfl
    · apply yq_on rfl rfl
      first | exact q_fieldAddr0 21 rfl Tryd.underlying69 rfl rfl ty_size64 | exact q_fieldAddrK 21 rfl Tryd.underlying69 rfl rfl ty_size64
    apply d_q 9 gO rfl rfl rfl rfl
    · apply yq_on rfl rfl
      first | exact q_fieldAddr0 1 rfl Tryd.underlying64 rfl rfl ty_size3 | exact q_fieldAddrK 1 rfl Tryd.underlying64 rfl rfl ty_size3
    refine d_q 10 gO rfl rfl rfl rfl (yq_on rfl rfl (q_loadL rfl ty_agg3 tk ga)) ?_
    apply d_q 11 gO rfl rfl rfl rfl
    · apply yq_on rfl rfl
      apply q_bin rfl rfl (fun w => g_int w); exact fun w => b_neq w
    apply d_q 12 gO rfl rfl rfl rfl
    · apply yq
      first | exact q_pick_t rfl rfl | exact q_pick_f rfl rfl
    refine d_q 13 gO rfl rfl rfl rfl (yq (q_move rfl)) ?_
    first | refine d_part_d (t := 37) rfl (fun p2 => ?_) (fun p2 => ?_) | refine d_part_n (t := 37) rfl (fun p2 => ?_) (fun p2 => ?_) | refine d_part (t := 37) rfl (fun p2 => ?_) (fun p2 => ?_)
    · exact absurd rfl p2
    · apply d_q 14 gO rfl rfl rfl rfl
      · apply yq_on rfl rfl
        first | exact q_fieldAddr0 0 rfl Tryd.underlying75 rfl rfl ty_size3 | exact q_fieldAddrK 0 rfl Tryd.underlying75 rfl rfl ty_size3
      refine d_q 15 gO rfl rfl rfl rfl (yq_on rfl rfl (q_loadL rfl ty_agg3 tk ga)) ?_
      refine d_q 16 gO rfl rfl rfl rfl (yq_on rfl rfl (q_move rfl)) ?_
      refine d_q 17 gO rfl rfl rfl rfl (yq_on rfl rfl (q_nilCheck rfl)) ?_
      apply d_q 18 gO rfl rfl rfl rfl
      · apply yq_on rfl rfl
        first | exact q_fieldAddr0 25 rfl Tryd.underlying69 rfl rfl ty_size67 | exact q_fieldAddrK 25 rfl Tryd.underlying69 rfl rfl ty_size67
      refine d_q 19 gO rfl rfl rfl rfl (yq_on rfl rfl (q_loadL rfl ty_agg67 tk ga)) ?_
      refine d_q 20 gO rfl rfl rfl rfl (yq_on rfl rfl (q_len rfl (fun w => len_slice Tryd.underlying67 w))) ?_
      apply d_q 21 gO rfl rfl rfl rfl
      · apply yq_on rfl rfl
        apply q_bin rfl rfl (fun w => g_int w); exact fun w => b_neq w
      apply d_q 22 gO rfl rfl rfl rfl
      · apply yq
        first | exact q_pick_t rfl rfl | exact q_pick_f rfl rfl
      refine d_end (by kernel_rfl) ?_
      refine n_code ?_
      first | refine t_cond_d rfl (fun p3 => ?_) (fun p3 => ?_) | refine t_cond_n rfl (fun p3 => ?_) (fun p3 => ?_) | refine t_cond rfl (fun p3 => ?_) (fun p3 => ?_)
      · exact absurd hused p3
      · skip
        refine t_skip ?_
        refine n_code ?_
        refine t_seq ?_
        refine t_region ?_
        first | refine l_q rfl (q_fieldAddr0 1 rfl Tryd.underlying75 rfl rfl ty_size3) ?_ | refine l_q rfl (q_fieldAddrK 1 rfl Tryd.underlying75 rfl rfl ty_size3) ?_
        refine l_q rfl (q_loadL rfl ty_agg3 tk ga) ?_
        refine l_q rfl (QV.to (q_bin rfl rfl (fun w => g_int w) (by first | exact fun w => b_quo_i w (by omega) | exact fun w => b_quo w (by omega))) hq8) ?_
        apply o_makeSlice1 rfl rfl rfl Tryd.underlying22 ty_info3 rfl (by omega) (by omega)
        intro b50
        refine l_q rfl (q_assign rfl) ?_
        refine l_nil ?_
        refine n_code ?_
        refine t_seq ?_
        refine t_region ?_
        first | refine l_q rfl (q_fieldAddr0 1 rfl Tryd.underlying75 rfl rfl ty_size3) ?_ | refine l_q rfl (q_fieldAddrK 1 rfl Tryd.underlying75 rfl rfl ty_size3) ?_
        refine l_q rfl (q_loadL rfl ty_agg3 tk ga) ?_
        refine l_q rfl (QV.to (q_bin rfl rfl (fun w => g_int w) (by first | exact fun w => b_quo_i w (by omega) | exact fun w => b_quo w (by omega))) hq8) ?_
        apply o_makeSlice1 rfl rfl rfl Tryd.underlying22 ty_info3 rfl (by omega) (by omega)
        intro b54
        refine l_q rfl (q_assign rfl) ?_
        refine l_nil ?_
        refine n_code ?_
        refine t_seq ?_
        refine t_region ?_
        refine l_q rfl (q_assign rfl) ?_
        refine l_nil ?_
        refine n_code ?_
        refine t_seq ?_
        refine t_region ?_
        refine l_q rfl (q_assign rfl) ?_
        refine l_nil ?_
        refine n_code ?_
        refine t_seq ?_
        refine t_seq ?_
        refine t_region ?_
        refine l_q rfl (q_assign rfl) ?_
        refine l_nil ?_
        refine n_code ?_
        refine t_block ?_
        simp only [Int.toNat_natCast]
        refine t_ent (show Ent _ (ownS 122 5 (.slice none 0 0) 0 (rowOf cellV ((List.range 0).map T.cells)) :: _) from fun w h => own_nil h) ?_
        refine t_loop (fun x : Nat × Value => x.1 ≤ 8 * n) (fun x => [(0, .pointer (some ⟨pb, 0, none⟩)), (3, .pointer (some ⟨b3, 0, none⟩)), (5, .slice (some ⟨b50, 0, none⟩) n n), (6, .slice (some ⟨b54, 0, none⟩) n n), (7, .int .i64 (cnt isFull T.cells x.1 : Nat)), (8, x.2), (9, .int .i64 (x.1 : Nat))]) (fun x => pt b3 (.cells #[.int .i64 T.used, .int .i64 (8 * (n : Int)), .int .i64 T.left, .int .i64 T.depth, .int .i64 T.pins, .int .i64 T.next, .bool (decide (T.kind = 4)), .int .i64 (go : Nat)] 75 (0, 0)) :: pt pb (.cells #[.pointer (some ⟨pa, 0, none⟩), .int .i64 l.key, .int .i64 l.elem, .int .i64 l.ka, .int .i64 l.ea, .int .i64 l.cap, .int .i64 l.eo, .int .i64 l.bo, .int .i64 l.slot, .int .i64 l.group, .pointer (some ⟨pa, 0, none⟩), .int .i64 l.key, .int .i64 l.elem, .int .i64 l.ka, .int .i64 l.ea, .int .i64 l.cap, .int .i64 l.eo, .int .i64 l.bo, .int .i64 l.slot, .int .i64 l.group, .int .i64 ((off : Nat) : Int), vf, .int .i64 (8 * (n : Int)), vh, vt, (.slice a0 lives.length cap), .int .i64 ad] 69 (0, 0)) :: ownS 3 1 (.slice (some ⟨b50, 0, none⟩) n n) n (cntL isEmp T.cells n x.1) :: ownS 3 1 (.slice (some ⟨b54, 0, none⟩) n n) n (cntL isDel T.cells n x.1) :: ownS 122 5 x.2 x.1 (rowOf cellV ((List.range x.1).map T.cells)) :: ownS 145 5 (.slice a0 lives.length cap) lives.length (rowOf Life.cells lives) :: arenaH pa s :: Fr) (fun x => 8 * n - x.1) (0, .slice none 0 0) (Nat.zero_le _) ⟨rfl, rfl, rfl, rfl, rfl, rfl, rfl, trivial⟩ (by dsimp only; rw [hz isEmp, hz isDel]; (exact en)) ?_
        rintro ⟨i, v8⟩ hi
        dsimp only at hi ⊢
        refine t_shape (e := 122) (sz := 5) (v := v8) (n := i) (xs := rowOf cellV ((List.range i).map T.cells)) tk fun _ hsh8 => ?_
        obtain ⟨a8, cap8, rfl, hsh8, _, _⟩ := hsh8
        refine t_seq ?_
        refine t_seq ?_
        refine t_region ?_
        refine l_q rfl (q_move rfl) ?_
        first | refine l_q rfl (q_fieldAddr0 1 rfl Tryd.underlying75 rfl rfl ty_size3) ?_ | refine l_q rfl (q_fieldAddrK 1 rfl Tryd.underlying75 rfl rfl ty_size3) ?_
        refine l_q rfl (q_loadL rfl ty_agg3 tk ga) ?_
        apply l_q rfl
        · apply q_bin rfl rfl (fun w => g_int w); exact fun w => b_lss w
        refine l_nil ?_
        refine n_code ?_
        first | refine t_cond_d rfl (fun g1 => ?_) (fun g1 => ?_) | refine t_cond_n rfl (fun g1 => ?_) (fun g1 => ?_) | refine t_cond rfl (fun g1 => ?_) (fun g1 => ?_)
        · skip
          have hig : i / 8 < n := by omega
          have hbe := cntG_bnd (p := isEmp) (cells := T.cells) i (i / 8)
          have hbd := cntG_bnd (p := isDel) (cells := T.cells) i (i / 8)
          have hcf := cnt_le isFull T.cells i
          have hge : (cntL isEmp T.cells n i)[0 + (((i : Nat) : Int) / 8).toNat]? = some (.int .i64 (cntG isEmp T.cells i (i / 8))) := by rw [show 0 + (((i : Nat) : Int) / 8).toNat = i / 8 by omega]; exact cntL_get hig
          have hgd : (cntL isDel T.cells n i)[0 + (((i : Nat) : Int) / 8).toNat]? = some (.int .i64 (cntG isDel T.cells i (i / 8))) := by rw [show 0 + (((i : Nat) : Int) / 8).toNat = i / 8 by omega]; exact cntL_get hig
          have hrow : rowOf cellV ((List.range i).map T.cells) ++ cellV (T.cells i) = rowOf cellV ((List.range (i + 1)).map T.cells) := by rw [List.range_succ, List.map_append, rowOf_app]; simp [rowOf]
          refine t_skip ?_
          refine n_code ?_
          refine t_seq ?_
          refine t_block ?_
          refine t_seq ?_
          refine t_region ?_
          refine l_q rfl (q_move rfl) ?_
          refine l_q rfl (q_nilCheck rfl) ?_
          first | refine l_q rfl (q_fieldAddr0 10 rfl Tryd.underlying69 rfl rfl ty_size36) ?_ | refine l_q rfl (q_fieldAddrK 10 rfl Tryd.underlying69 rfl rfl ty_size36) ?_
          refine l_q rfl (q_loadAggL rfl ty_agg36 ty_size36 tk sb) ?_
          refine l_q rfl (q_move rfl) ?_
          apply l_callf rfl rfl rfl (Cell_okP pa off go n e s l T hP i (by omega))
          · exact pk
          rintro v L' ⟨rfl, rfl⟩
          refine l_nm ?_
          refine l_q rfl (q_move rfl) ?_
          refine l_q rfl (q_extractL rfl ga) ?_
          refine l_q rfl (q_extractL rfl ga) ?_
          refine o_allocA rfl ty_zero122 (fun b10 => ?_)
          apply o_storeAggL rfl rfl rfl ty_size122 rfl rfl (by simp)
          · exact tk
          · exact sal
          refine l_q rfl (q_assign rfl) ?_
          refine l_nil ?_
          refine n_code ?_
          refine t_seq ?_
          refine t_seq ?_
          refine t_region ?_
          refine l_q rfl (q_move rfl) ?_
          apply l_callf rfl rfl rfl (num08_ok _)
          · exact pk
          rintro v L' ⟨rfl, rfl⟩
          refine l_nm ?_
          apply l_q rfl
          · apply q_bin rfl rfl (fun w => g_int w); exact fun w => b_neq w
          refine l_q rfl (q_move rfl) ?_
          cases hc : T.cells i with
          | empty =>
            rw [hc] at hrow
            have hset : (cntL isEmp T.cells n i).set (0 + (((i : Nat) : Int) / 8).toNat) (.int .i64 (cntG isEmp T.cells i (i / 8) + 1)) = cntL isEmp T.cells n (i + 1) := by rw [show 0 + (((i : Nat) : Int) / 8).toNat = i / 8 by omega]; exact cntL_set (by rw [hc]; rfl)
            have hkd : cntL isDel T.cells n i = cntL isDel T.cells n (i + 1) := cntL_keep (by rw [hc]; rfl)
            have hkf : cnt isFull T.cells (i + 1) = cnt isFull T.cells i := by rw [cnt_succ, hc]; rfl
            simp only [Cell.kind, Cell.tagI, Cell.keyS, Cell.elemS, Cell.birthI]
            first | refine l_part_d (t := 73) rfl (fun q1 => ?_) (fun q1 => ?_) | refine l_part_n (t := 73) rfl (fun q1 => ?_) (fun q1 => ?_) | refine l_part (t := 73) rfl (fun q1 => ?_) (fun q1 => ?_)
            · exact absurd trivial q1
            · refine l_on rfl rfl ?_
              first | refine l_q rfl (q_fieldAddr0 0 rfl Tryd.underlying122 rfl rfl ty_size3) ?_ | refine l_q rfl (q_fieldAddrK 0 rfl Tryd.underlying122 rfl rfl ty_size3) ?_
              refine l_on rfl rfl ?_
              refine l_q rfl (q_loadL rfl ty_agg3 tk ga) ?_
              refine l_on rfl rfl ?_
              apply l_q rfl
              · apply q_bin rfl rfl (fun w => g_int w); exact fun w => b_lss w
              first | refine l_q rfl (q_pick_t rfl rfl) ?_ | refine l_q rfl (q_pick_f rfl rfl) ?_
              refine l_q rfl (q_move rfl) ?_
              first | refine l_part_d (t := 78) rfl (fun q2 => ?_) (fun q2 => ?_) | refine l_part_n (t := 78) rfl (fun q2 => ?_) (fun q2 => ?_) | refine l_part (t := 78) rfl (fun q2 => ?_) (fun q2 => ?_)
              · omega
              · refine l_on rfl rfl ?_
                first | refine l_q rfl (q_fieldAddr0 0 rfl Tryd.underlying122 rfl rfl ty_size3) ?_ | refine l_q rfl (q_fieldAddrK 0 rfl Tryd.underlying122 rfl rfl ty_size3) ?_
                refine l_on rfl rfl ?_
                refine l_q rfl (q_loadL rfl ty_agg3 tk ga) ?_
                refine l_on rfl rfl ?_
                apply l_q rfl
                · apply q_bin rfl rfl (fun w => g_int w); exact fun w => b_gtr w
                first | refine l_q rfl (q_pick_t rfl rfl) ?_ | refine l_q rfl (q_pick_f rfl rfl) ?_
                refine l_q rfl (q_move rfl) ?_
                first | refine l_part_d (t := 83) rfl (fun q3 => ?_) (fun q3 => ?_) | refine l_part_n (t := 83) rfl (fun q3 => ?_) (fun q3 => ?_) | refine l_part (t := 83) rfl (fun q3 => ?_) (fun q3 => ?_)
                · omega
                · refine l_on rfl rfl ?_
                  first | refine l_q rfl (q_fieldAddr0 0 rfl Tryd.underlying122 rfl rfl ty_size3) ?_ | refine l_q rfl (q_fieldAddrK 0 rfl Tryd.underlying122 rfl rfl ty_size3) ?_
                  refine l_on rfl rfl ?_
                  refine l_q rfl (q_loadL rfl ty_agg3 tk ga) ?_
                  refine l_on rfl rfl ?_
                  apply l_q rfl
                  · apply q_bin rfl rfl (fun w => g_int w); exact fun w => b_neq w
                  refine l_on rfl rfl ?_
                  refine l_q rfl (q_move rfl) ?_
                  first | refine l_part_d (t := 87) rfl (fun q4 => ?_) (fun q4 => ?_) | refine l_part_n (t := 87) rfl (fun q4 => ?_) (fun q4 => ?_) | refine l_part (t := 87) rfl (fun q4 => ?_) (fun q4 => ?_)
                  · refine l_on rfl rfl ?_
                    refine l_q rfl (q_loadAggL rfl ty_agg122 ty_size122 tk sb) ?_
                    refine l_on rfl rfl ?_
                    first | refine l_q rfl (q_fieldAddr0 0 rfl Tryd.underlying122 rfl rfl ty_size3) ?_ | refine l_q rfl (q_fieldAddrK 0 rfl Tryd.underlying122 rfl rfl ty_size3) ?_
                    refine l_on rfl rfl ?_
                    refine l_q rfl (q_loadL rfl ty_agg3 tk ga) ?_
                    refine l_on rfl rfl ?_
                    apply l_q rfl
                    · apply q_buildS rfl ty_pl122 ty_zero122
                      · apply FillR.one
                        · repeat (first | exact PlAt.here | apply PlAt.there)
                        · rfl
                        · exact sa
                        exact FillR.nil
                    refine l_on rfl rfl ?_
                    apply l_q rfl
                    · apply q_bin rfl rfl (fun w => g_flat w ty_guard122); exact fun w => b_neqFlat w Tryd.underlying122 ty_held122 (by kernel_rfl) (by kernel_rfl)
                    refine l_on rfl rfl ?_
                    first | refine l_q rfl (q_pick_t rfl rfl) ?_ | refine l_q rfl (q_pick_f rfl rfl) ?_
                    first | refine l_q rfl (q_pick_t rfl rfl) ?_ | refine l_q rfl (q_pick_f rfl rfl) ?_
                    refine l_nil ?_
                    refine n_code ?_
                    first | refine t_cond_d rfl (fun q5 => ?_) (fun q5 => ?_) | refine t_cond_n rfl (fun q5 => ?_) (fun q5 => ?_) | refine t_cond rfl (fun q5 => ?_) (fun q5 => ?_)
                    · exact absurd rfl (of_dec q5)
                    · refine t_skip ?_
                      refine n_code ?_
                      refine t_seq ?_
                      refine t_seq ?_
                      refine t_region ?_
                      first | refine l_q rfl (q_fieldAddr0 0 rfl Tryd.underlying122 rfl rfl ty_size3) ?_ | refine l_q rfl (q_fieldAddrK 0 rfl Tryd.underlying122 rfl rfl ty_size3) ?_
                      refine l_q rfl (q_loadL rfl ty_agg3 tk ga) ?_
                      refine l_nil ?_
                      refine n_code ?_
                      refine t_block ?_
                      refine t_seq ?_
                      refine t_region ?_
                      apply l_q rfl
                      · apply q_bin rfl rfl (fun w => g_int w); exact fun w => b_eql w
                      refine l_q rfl (q_assign rfl) ?_
                      refine l_nil ?_
                      refine n_code ?_
                      first | refine t_cond_d rfl (fun q6 => ?_) (fun q6 => ?_) | refine t_cond_n rfl (fun q6 => ?_) (fun q6 => ?_) | refine t_cond rfl (fun q6 => ?_) (fun q6 => ?_)
                      · refine t_region ?_
                        refine l_q rfl (q_move rfl) ?_
                        refine l_q rfl (q_move rfl) ?_
                        apply l_q rfl
                        · apply q_bin rfl rfl (fun w => g_int w); first | exact fun w => b_quo_i w (by omega) | exact fun w => b_quo w (by omega)
                        refine l_q rfl (q_indexAddr1 rfl rfl Tryd.underlying22 ty_size3 (by omega)) ?_
                        refine l_q rfl (q_loadOwn rfl ty_agg3 tk hge) ?_
                        apply l_q rfl
                        · apply q_bin rfl rfl (fun w => g_int w); first | exact fun w => b_add_i w (by omega) | exact fun w => b_add w
                        refine l_q rfl (q_indexAddr1 rfl rfl Tryd.underlying22 ty_size3 (by omega)) ?_
                        refine o_storeOwn rfl rfl rfl ty_size3 rfl tk (by omega) hset ?_
                        refine l_nil ?_
                        refine n_blk ?_
                        refine n_code ?_
                        refine t_region ?_
                        refine l_q rfl (q_move rfl) ?_
                        refine l_q rfl (q_loadAggL rfl ty_agg122 ty_size122 tk sb) ?_
                        refine o_buildSlice (us := [_]) rfl rfl Tryd.underlying148 ty_size122 ty_zero122 rfl rfl rfl rfl rfl (fun b119 => ?_)
                        apply o_append (sz := 5) rfl rfl rfl Tryd.underlying148 ty_info122 rfl rfl
                        · exact tk
                        · exact tk
                        · rfl
                        · rfl
                        · simp only [maxLen]; omega
                        · omega
                        intro v120
                        refine l_shape (v := v120) tk fun _ hs120 => ?_
                        obtain ⟨a120, cap120, rfl, hs120, _, _⟩ := hs120
                        refine l_q rfl (q_assign rfl) ?_
                        refine l_nil ?_
                        refine n_blk ?_
                        refine n_code ?_
                        refine t_region ?_
                        refine l_q rfl (q_move rfl) ?_
                        apply l_q rfl
                        · apply q_bin rfl rfl (fun w => g_int w); first | exact fun w => b_add_i w (by omega) | exact fun w => b_add w
                        refine l_q rfl (q_assign rfl) ?_
                        refine l_nil ?_
                        rw [hkd, ← hkf, show rowOf cellV ((List.range i).map T.cells) ++ List.flatMap (fun x : Value => x.cells.toList) [.agg #[.int .i64 0, .int .i64 0, .string { data := #[] }, .string { data := #[] }, .int .i64 0]] = rowOf cellV ((List.range (i + 1)).map T.cells) from hrow]
                        apply n_again ((i + 1, .slice a120 (i + 1) cap120))
                        · exact by dsimp only; omega
                        · dsimp only; omega
                        · exact ⟨rfl, rfl, rfl, rfl, rfl, rfl, rfl, trivial⟩
                        · exact en
                      · exact absurd rfl q6
                  · omega
          | deleted =>
            rw [hc] at hrow
            have hke : cntL isEmp T.cells n i = cntL isEmp T.cells n (i + 1) := cntL_keep (by rw [hc]; rfl)
            have hset : (cntL isDel T.cells n i).set (0 + (((i : Nat) : Int) / 8).toNat) (.int .i64 (cntG isDel T.cells i (i / 8) + 1)) = cntL isDel T.cells n (i + 1) := by rw [show 0 + (((i : Nat) : Int) / 8).toNat = i / 8 by omega]; exact cntL_set (by rw [hc]; rfl)
            have hkf : cnt isFull T.cells (i + 1) = cnt isFull T.cells i := by rw [cnt_succ, hc]; rfl
            simp only [Cell.kind, Cell.tagI, Cell.keyS, Cell.elemS, Cell.birthI]
            first | refine l_part_d (t := 73) rfl (fun q1 => ?_) (fun q1 => ?_) | refine l_part_n (t := 73) rfl (fun q1 => ?_) (fun q1 => ?_) | refine l_part (t := 73) rfl (fun q1 => ?_) (fun q1 => ?_)
            · exact absurd trivial q1
            · refine l_on rfl rfl ?_
              first | refine l_q rfl (q_fieldAddr0 0 rfl Tryd.underlying122 rfl rfl ty_size3) ?_ | refine l_q rfl (q_fieldAddrK 0 rfl Tryd.underlying122 rfl rfl ty_size3) ?_
              refine l_on rfl rfl ?_
              refine l_q rfl (q_loadL rfl ty_agg3 tk ga) ?_
              refine l_on rfl rfl ?_
              apply l_q rfl
              · apply q_bin rfl rfl (fun w => g_int w); exact fun w => b_lss w
              first | refine l_q rfl (q_pick_t rfl rfl) ?_ | refine l_q rfl (q_pick_f rfl rfl) ?_
              refine l_q rfl (q_move rfl) ?_
              first | refine l_part_d (t := 78) rfl (fun q2 => ?_) (fun q2 => ?_) | refine l_part_n (t := 78) rfl (fun q2 => ?_) (fun q2 => ?_) | refine l_part (t := 78) rfl (fun q2 => ?_) (fun q2 => ?_)
              · omega
              · refine l_on rfl rfl ?_
                first | refine l_q rfl (q_fieldAddr0 0 rfl Tryd.underlying122 rfl rfl ty_size3) ?_ | refine l_q rfl (q_fieldAddrK 0 rfl Tryd.underlying122 rfl rfl ty_size3) ?_
                refine l_on rfl rfl ?_
                refine l_q rfl (q_loadL rfl ty_agg3 tk ga) ?_
                refine l_on rfl rfl ?_
                apply l_q rfl
                · apply q_bin rfl rfl (fun w => g_int w); exact fun w => b_gtr w
                first | refine l_q rfl (q_pick_t rfl rfl) ?_ | refine l_q rfl (q_pick_f rfl rfl) ?_
                refine l_q rfl (q_move rfl) ?_
                first | refine l_part_d (t := 83) rfl (fun q3 => ?_) (fun q3 => ?_) | refine l_part_n (t := 83) rfl (fun q3 => ?_) (fun q3 => ?_) | refine l_part (t := 83) rfl (fun q3 => ?_) (fun q3 => ?_)
                · omega
                · refine l_on rfl rfl ?_
                  first | refine l_q rfl (q_fieldAddr0 0 rfl Tryd.underlying122 rfl rfl ty_size3) ?_ | refine l_q rfl (q_fieldAddrK 0 rfl Tryd.underlying122 rfl rfl ty_size3) ?_
                  refine l_on rfl rfl ?_
                  refine l_q rfl (q_loadL rfl ty_agg3 tk ga) ?_
                  refine l_on rfl rfl ?_
                  apply l_q rfl
                  · apply q_bin rfl rfl (fun w => g_int w); exact fun w => b_neq w
                  refine l_on rfl rfl ?_
                  refine l_q rfl (q_move rfl) ?_
                  first | refine l_part_d (t := 87) rfl (fun q4 => ?_) (fun q4 => ?_) | refine l_part_n (t := 87) rfl (fun q4 => ?_) (fun q4 => ?_) | refine l_part (t := 87) rfl (fun q4 => ?_) (fun q4 => ?_)
                  · refine l_on rfl rfl ?_
                    refine l_q rfl (q_loadAggL rfl ty_agg122 ty_size122 tk sb) ?_
                    refine l_on rfl rfl ?_
                    first | refine l_q rfl (q_fieldAddr0 0 rfl Tryd.underlying122 rfl rfl ty_size3) ?_ | refine l_q rfl (q_fieldAddrK 0 rfl Tryd.underlying122 rfl rfl ty_size3) ?_
                    refine l_on rfl rfl ?_
                    refine l_q rfl (q_loadL rfl ty_agg3 tk ga) ?_
                    refine l_on rfl rfl ?_
                    apply l_q rfl
                    · apply q_buildS rfl ty_pl122 ty_zero122
                      · apply FillR.one
                        · repeat (first | exact PlAt.here | apply PlAt.there)
                        · rfl
                        · exact sa
                        exact FillR.nil
                    refine l_on rfl rfl ?_
                    apply l_q rfl
                    · apply q_bin rfl rfl (fun w => g_flat w ty_guard122); exact fun w => b_neqFlat w Tryd.underlying122 ty_held122 (by kernel_rfl) (by kernel_rfl)
                    refine l_on rfl rfl ?_
                    first | refine l_q rfl (q_pick_t rfl rfl) ?_ | refine l_q rfl (q_pick_f rfl rfl) ?_
                    first | refine l_q rfl (q_pick_t rfl rfl) ?_ | refine l_q rfl (q_pick_f rfl rfl) ?_
                    refine l_nil ?_
                    refine n_code ?_
                    first | refine t_cond_d rfl (fun q5 => ?_) (fun q5 => ?_) | refine t_cond_n rfl (fun q5 => ?_) (fun q5 => ?_) | refine t_cond rfl (fun q5 => ?_) (fun q5 => ?_)
                    · exact absurd rfl (of_dec q5)
                    · refine t_skip ?_
                      refine n_code ?_
                      refine t_seq ?_
                      refine t_seq ?_
                      refine t_region ?_
                      first | refine l_q rfl (q_fieldAddr0 0 rfl Tryd.underlying122 rfl rfl ty_size3) ?_ | refine l_q rfl (q_fieldAddrK 0 rfl Tryd.underlying122 rfl rfl ty_size3) ?_
                      refine l_q rfl (q_loadL rfl ty_agg3 tk ga) ?_
                      refine l_nil ?_
                      refine n_code ?_
                      refine t_block ?_
                      refine t_seq ?_
                      refine t_region ?_
                      apply l_q rfl
                      · apply q_bin rfl rfl (fun w => g_int w); exact fun w => b_eql w
                      refine l_q rfl (q_assign rfl) ?_
                      refine l_nil ?_
                      refine n_code ?_
                      first | refine t_cond_d rfl (fun q6 => ?_) (fun q6 => ?_) | refine t_cond_n rfl (fun q6 => ?_) (fun q6 => ?_) | refine t_cond rfl (fun q6 => ?_) (fun q6 => ?_)
                      · omega
                      · refine t_seq ?_
                        refine t_region ?_
                        apply l_q rfl
                        · apply q_bin rfl rfl (fun w => g_int w); exact fun w => b_eql w
                        refine l_q rfl (q_assign rfl) ?_
                        refine l_nil ?_
                        refine n_code ?_
                        first | refine t_cond_d rfl (fun q7 => ?_) (fun q7 => ?_) | refine t_cond_n rfl (fun q7 => ?_) (fun q7 => ?_) | refine t_cond rfl (fun q7 => ?_) (fun q7 => ?_)
                        · refine t_region ?_
                          refine l_q rfl (q_move rfl) ?_
                          refine l_q rfl (q_move rfl) ?_
                          apply l_q rfl
                          · apply q_bin rfl rfl (fun w => g_int w); first | exact fun w => b_quo_i w (by omega) | exact fun w => b_quo w (by omega)
                          refine l_q rfl (q_indexAddr1 rfl rfl Tryd.underlying22 ty_size3 (by omega)) ?_
                          refine l_q rfl (q_loadOwn rfl ty_agg3 tk hgd) ?_
                          apply l_q rfl
                          · apply q_bin rfl rfl (fun w => g_int w); first | exact fun w => b_add_i w (by omega) | exact fun w => b_add w
                          refine l_q rfl (q_indexAddr1 rfl rfl Tryd.underlying22 ty_size3 (by omega)) ?_
                          refine o_storeOwn rfl rfl rfl ty_size3 rfl tk (by omega) hset ?_
                          refine l_nil ?_
                          refine n_blk ?_
                          refine n_code ?_
                          refine t_region ?_
                          refine l_q rfl (q_move rfl) ?_
                          refine l_q rfl (q_loadAggL rfl ty_agg122 ty_size122 tk sb) ?_
                          refine o_buildSlice (us := [_]) rfl rfl Tryd.underlying148 ty_size122 ty_zero122 rfl rfl rfl rfl rfl (fun b119 => ?_)
                          apply o_append (sz := 5) rfl rfl rfl Tryd.underlying148 ty_info122 rfl rfl
                          · exact tk
                          · exact tk
                          · rfl
                          · rfl
                          · simp only [maxLen]; omega
                          · omega
                          intro v120
                          refine l_shape (v := v120) tk fun _ hs120 => ?_
                          obtain ⟨a120, cap120, rfl, hs120, _, _⟩ := hs120
                          refine l_q rfl (q_assign rfl) ?_
                          refine l_nil ?_
                          refine n_blk ?_
                          refine n_code ?_
                          refine t_region ?_
                          refine l_q rfl (q_move rfl) ?_
                          apply l_q rfl
                          · apply q_bin rfl rfl (fun w => g_int w); first | exact fun w => b_add_i w (by omega) | exact fun w => b_add w
                          refine l_q rfl (q_assign rfl) ?_
                          refine l_nil ?_
                          rw [hke, ← hkf, show rowOf cellV ((List.range i).map T.cells) ++ List.flatMap (fun x : Value => x.cells.toList) [.agg #[.int .i64 1, .int .i64 0, .string { data := #[] }, .string { data := #[] }, .int .i64 0]] = rowOf cellV ((List.range (i + 1)).map T.cells) from hrow]
                          apply n_again ((i + 1, .slice a120 (i + 1) cap120))
                          · exact by dsimp only; omega
                          · dsimp only; omega
                          · exact ⟨rfl, rfl, rfl, rfl, rfl, rfl, rfl, trivial⟩
                          · exact en
                        · exact absurd rfl q7
                  · omega
          | full tg ky el bi =>
            rw [hc] at hrow
            have hke : cntL isEmp T.cells n i = cntL isEmp T.cells n (i + 1) := cntL_keep (by rw [hc]; rfl)
            have hkd : cntL isDel T.cells n i = cntL isDel T.cells n (i + 1) := cntL_keep (by rw [hc]; rfl)
            have hkf : cnt isFull T.cells (i + 1) = cnt isFull T.cells i + 1 := by rw [cnt_succ, hc]; rfl
            simp only [Cell.kind, Cell.tagI, Cell.keyS, Cell.elemS, Cell.birthI]
            first | refine l_part_d (t := 73) rfl (fun q1 => ?_) (fun q1 => ?_) | refine l_part_n (t := 73) rfl (fun q1 => ?_) (fun q1 => ?_) | refine l_part (t := 73) rfl (fun q1 => ?_) (fun q1 => ?_)
            · exact absurd trivial q1
            · refine l_on rfl rfl ?_
              first | refine l_q rfl (q_fieldAddr0 0 rfl Tryd.underlying122 rfl rfl ty_size3) ?_ | refine l_q rfl (q_fieldAddrK 0 rfl Tryd.underlying122 rfl rfl ty_size3) ?_
              refine l_on rfl rfl ?_
              refine l_q rfl (q_loadL rfl ty_agg3 tk ga) ?_
              refine l_on rfl rfl ?_
              apply l_q rfl
              · apply q_bin rfl rfl (fun w => g_int w); exact fun w => b_lss w
              first | refine l_q rfl (q_pick_t rfl rfl) ?_ | refine l_q rfl (q_pick_f rfl rfl) ?_
              refine l_q rfl (q_move rfl) ?_
              first | refine l_part_d (t := 78) rfl (fun q2 => ?_) (fun q2 => ?_) | refine l_part_n (t := 78) rfl (fun q2 => ?_) (fun q2 => ?_) | refine l_part (t := 78) rfl (fun q2 => ?_) (fun q2 => ?_)
              · omega
              · refine l_on rfl rfl ?_
                first | refine l_q rfl (q_fieldAddr0 0 rfl Tryd.underlying122 rfl rfl ty_size3) ?_ | refine l_q rfl (q_fieldAddrK 0 rfl Tryd.underlying122 rfl rfl ty_size3) ?_
                refine l_on rfl rfl ?_
                refine l_q rfl (q_loadL rfl ty_agg3 tk ga) ?_
                refine l_on rfl rfl ?_
                apply l_q rfl
                · apply q_bin rfl rfl (fun w => g_int w); exact fun w => b_gtr w
                first | refine l_q rfl (q_pick_t rfl rfl) ?_ | refine l_q rfl (q_pick_f rfl rfl) ?_
                refine l_q rfl (q_move rfl) ?_
                first | refine l_part_d (t := 83) rfl (fun q3 => ?_) (fun q3 => ?_) | refine l_part_n (t := 83) rfl (fun q3 => ?_) (fun q3 => ?_) | refine l_part (t := 83) rfl (fun q3 => ?_) (fun q3 => ?_)
                · omega
                · refine l_on rfl rfl ?_
                  first | refine l_q rfl (q_fieldAddr0 0 rfl Tryd.underlying122 rfl rfl ty_size3) ?_ | refine l_q rfl (q_fieldAddrK 0 rfl Tryd.underlying122 rfl rfl ty_size3) ?_
                  refine l_on rfl rfl ?_
                  refine l_q rfl (q_loadL rfl ty_agg3 tk ga) ?_
                  refine l_on rfl rfl ?_
                  apply l_q rfl
                  · apply q_bin rfl rfl (fun w => g_int w); exact fun w => b_neq w
                  refine l_on rfl rfl ?_
                  refine l_q rfl (q_move rfl) ?_
                  first | refine l_part_d (t := 87) rfl (fun q4 => ?_) (fun q4 => ?_) | refine l_part_n (t := 87) rfl (fun q4 => ?_) (fun q4 => ?_) | refine l_part (t := 87) rfl (fun q4 => ?_) (fun q4 => ?_)
                  · exact absurd rfl q4
                  · refine l_off rfl rfl rfl rfl ?_
                    refine l_off rfl rfl rfl rfl ?_
                    refine l_off rfl rfl rfl rfl ?_
                    refine l_off rfl rfl rfl rfl ?_
                    refine l_off rfl rfl rfl rfl ?_
                    refine l_on rfl rfl ?_
                    first | refine l_q rfl (q_pick_t rfl rfl) ?_ | refine l_q rfl (q_pick_f rfl rfl) ?_
                    first | refine l_q rfl (q_pick_t rfl rfl) ?_ | refine l_q rfl (q_pick_f rfl rfl) ?_
                    refine l_nil ?_
                    refine n_code ?_
                    refine t_cond_f rfl ?_
                    refine t_skip ?_
                    refine n_code ?_
                    refine t_seq ?_
                    refine t_seq ?_
                    refine t_region ?_
                    first | refine l_q rfl (q_fieldAddr0 0 rfl Tryd.underlying122 rfl rfl ty_size3) ?_ | refine l_q rfl (q_fieldAddrK 0 rfl Tryd.underlying122 rfl rfl ty_size3) ?_
                    refine l_q rfl (q_loadL rfl ty_agg3 tk ga) ?_
                    refine l_nil ?_
                    refine n_code ?_
                    refine t_block ?_
                    refine t_seq ?_
                    refine t_region ?_
                    apply l_q rfl
                    · apply q_bin rfl rfl (fun w => g_int w); exact fun w => b_eql w
                    refine l_q rfl (q_assign rfl) ?_
                    refine l_nil ?_
                    refine n_code ?_
                    first | refine t_cond_d rfl (fun q6 => ?_) (fun q6 => ?_) | refine t_cond_n rfl (fun q6 => ?_) (fun q6 => ?_) | refine t_cond rfl (fun q6 => ?_) (fun q6 => ?_)
                    · omega
                    · refine t_seq ?_
                      refine t_region ?_
                      apply l_q rfl
                      · apply q_bin rfl rfl (fun w => g_int w); exact fun w => b_eql w
                      refine l_q rfl (q_assign rfl) ?_
                      refine l_nil ?_
                      refine n_code ?_
                      first | refine t_cond_d rfl (fun q7 => ?_) (fun q7 => ?_) | refine t_cond_n rfl (fun q7 => ?_) (fun q7 => ?_) | refine t_cond rfl (fun q7 => ?_) (fun q7 => ?_)
                      · omega
                      · refine t_region ?_
                        refine l_q rfl (q_move rfl) ?_
                        apply l_q rfl
                        · apply q_bin rfl rfl (fun w => g_int w); first | exact fun w => b_add_i w (by omega) | exact fun w => b_add w
                        refine l_q rfl (q_assign rfl) ?_
                        refine l_nil ?_
                        refine n_blk ?_
                        refine n_code ?_
                        refine t_region ?_
                        refine l_q rfl (q_move rfl) ?_
                        refine l_q rfl (q_loadAggL rfl ty_agg122 ty_size122 tk sb) ?_
                        refine o_buildSlice (us := [_]) rfl rfl Tryd.underlying148 ty_size122 ty_zero122 rfl rfl rfl rfl rfl (fun b119 => ?_)
                        apply o_append (sz := 5) rfl rfl rfl Tryd.underlying148 ty_info122 rfl rfl
                        · exact tk
                        · exact tk
                        · rfl
                        · rfl
                        · simp only [maxLen]; omega
                        · omega
                        intro v120
                        refine l_shape (v := v120) tk fun _ hs120 => ?_
                        obtain ⟨a120, cap120, rfl, hs120, _, _⟩ := hs120
                        refine l_q rfl (q_assign rfl) ?_
                        refine l_nil ?_
                        refine n_blk ?_
                        refine n_code ?_
                        refine t_region ?_
                        refine l_q rfl (q_move rfl) ?_
                        apply l_q rfl
                        · apply q_bin rfl rfl (fun w => g_int w); first | exact fun w => b_add_i w (by omega) | exact fun w => b_add w
                        refine l_q rfl (q_assign rfl) ?_
                        refine l_nil ?_
                        rw [hke, hkd, show rowOf cellV ((List.range i).map T.cells) ++ List.flatMap (fun x : Value => x.cells.toList) [.agg #[.int .i64 2, .int .i64 tg, .string ky, .string el, .int .i64 bi]] = rowOf cellV ((List.range (i + 1)).map T.cells) from hrow]
                        apply n_again ((i + 1, .slice a120 (i + 1) cap120))
                        · exact by dsimp only; omega
                        · dsimp only; omega
                        · exact ⟨rfl, rfl, rfl, rfl, by rw [hkf]; rfl, rfl, rfl, trivial⟩
                        · exact en
        · refine t_exit ?_
          refine x_code ?_
          refine x_lp ?_
          refine x_hit ?_
          refine n_code ?_
          refine t_seq ?_
          refine t_region ?_
          refine l_q rfl (q_assign rfl) ?_
          refine l_nil ?_
          refine n_code ?_
          refine t_seq ?_
          refine t_seq ?_
          refine t_region ?_
          refine l_q rfl (q_move rfl) ?_
          refine l_q rfl (q_len rfl (fun w => len_slice Tryd.underlying22 w)) ?_
          refine l_q rfl (q_move rfl) ?_
          refine l_nil ?_
          refine n_code ?_
          refine t_block ?_
          have hi8 : i = 8 * n := by omega
          subst hi8
          refine t_loop (fun g : Nat => g ≤ n) (fun g => [(0, .pointer (some ⟨pb, 0, none⟩)), (3, .pointer (some ⟨b3, 0, none⟩)), (5, .slice (some ⟨b50, 0, none⟩) n n), (6, .slice (some ⟨b54, 0, none⟩) n n), (7, .int .i64 (cnt isFull T.cells (8 * n) : Nat)), (8, .slice a8 (8 * n) cap8), (12, .int .i64 (cnt isDel T.cells (8 * g) : Nat)), (122, .int .i64 (n : Nat)), (123, .int .i64 (g : Nat))]) (fun _ => pt b3 (.cells #[.int .i64 T.used, .int .i64 (8 * (n : Int)), .int .i64 T.left, .int .i64 T.depth, .int .i64 T.pins, .int .i64 T.next, .bool (decide (T.kind = 4)), .int .i64 (go : Nat)] 75 (0, 0)) :: pt pb (.cells #[.pointer (some ⟨pa, 0, none⟩), .int .i64 l.key, .int .i64 l.elem, .int .i64 l.ka, .int .i64 l.ea, .int .i64 l.cap, .int .i64 l.eo, .int .i64 l.bo, .int .i64 l.slot, .int .i64 l.group, .pointer (some ⟨pa, 0, none⟩), .int .i64 l.key, .int .i64 l.elem, .int .i64 l.ka, .int .i64 l.ea, .int .i64 l.cap, .int .i64 l.eo, .int .i64 l.bo, .int .i64 l.slot, .int .i64 l.group, .int .i64 ((off : Nat) : Int), vf, .int .i64 (8 * (n : Int)), vh, vt, (.slice a0 lives.length cap), .int .i64 ad] 69 (0, 0)) :: ownS 3 1 (.slice (some ⟨b50, 0, none⟩) n n) n (cntL isEmp T.cells n (8 * n)) :: ownS 3 1 (.slice (some ⟨b54, 0, none⟩) n n) n (cntL isDel T.cells n (8 * n)) :: ownS 122 5 (.slice a8 (8 * n) cap8) (8 * n) (rowOf cellV ((List.range (8 * n)).map T.cells)) :: ownS 145 5 (.slice a0 lives.length cap) lives.length (rowOf Life.cells lives) :: arenaH pa s :: Fr) (fun g => n - g) 0 (Nat.zero_le _) ⟨rfl, rfl, rfl, rfl, rfl, rfl, rfl, rfl, rfl, trivial⟩ (by (exact en)) ?_
          intro g hg
          refine t_seq ?_
          refine t_region ?_
          apply l_q rfl
          · apply q_bin rfl rfl (fun w => g_int w); exact fun w => b_lss w
          refine l_nil ?_
          refine n_code ?_
          refine t_seq ?_
          first | refine t_cond_d rfl (fun g2 => ?_) (fun g2 => ?_) | refine t_cond_n rfl (fun g2 => ?_) (fun g2 => ?_) | refine t_cond rfl (fun g2 => ?_) (fun g2 => ?_)
          · skip
            have hge : (cntL isEmp T.cells n (8 * n))[0 + ((g : Nat) : Int).toNat]? = some (.int .i64 (cntG isEmp T.cells (8 * n) g)) := by rw [Nat.zero_add, Int.toNat_natCast]; exact cntL_get (by omega)
            have hgd : (cntL isDel T.cells n (8 * n))[0 + ((g : Nat) : Int).toNat]? = some (.int .i64 (cntG isDel T.cells (8 * n) g)) := by rw [Nat.zero_add, Int.toNat_natCast]; exact cntL_get (by omega)
            have hbd := cntG_bnd (p := isDel) (cells := T.cells) (8 * n) g
            have hcd := cnt_le isDel T.cells (8 * g)
            have hmk : ((cnt isDel T.cells (8 * g) : Nat) : Int) + cntG isDel T.cells (8 * n) g = ((cnt isDel T.cells (8 * (g + 1)) : Nat) : Int) := by rw [cntG_all (by omega)]; rw [show 8 * (g + 1) = 8 * g + 8 by omega]; omega
            have hmx : ¬ (0 < cntG isEmp T.cells (8 * n) g ∧ 0 < cntG isDel T.cells (8 * n) g) := fun ⟨q1, q2⟩ => by
              obtain ⟨i1, h1, h2, h3⟩ := cntG_some (by omega) q1
              obtain ⟨i2, h4, h5, h6⟩ := cntG_some (by omega) q2
              exact hI.cnt.mixed i1 i2 h1 h4 (by omega) (emp_iff'.1 h3) (del_iff.1 h6)
            refine t_skip ?_
            refine n_code ?_
            refine t_seq ?_
            refine t_block ?_
            refine t_seq ?_
            refine t_region ?_
            refine l_q rfl (q_move rfl) ?_
            refine l_q rfl (q_assign rfl) ?_
            refine l_nil ?_
            refine n_code ?_
            refine t_seq ?_
            refine t_seq ?_
            refine t_region ?_
            refine l_q rfl (q_move rfl) ?_
            refine l_q rfl (q_move rfl) ?_
            refine l_q rfl (q_indexAddr1 rfl rfl Tryd.underlying22 ty_size3 (by omega)) ?_
            refine l_q rfl (q_loadOwn rfl ty_agg3 tk hge) ?_
            apply l_q rfl
            · apply q_bin rfl rfl (fun w => g_int w); exact fun w => b_gtr w
            refine l_q rfl (q_move rfl) ?_
            first | refine l_part_d (t := 131) rfl (fun s1 => ?_) (fun s1 => ?_) | refine l_part_n (t := 131) rfl (fun s1 => ?_) (fun s1 => ?_) | refine l_part (t := 131) rfl (fun s1 => ?_) (fun s1 => ?_)
            · refine l_on rfl rfl ?_
              refine l_q rfl (q_move rfl) ?_
              refine l_on rfl rfl ?_
              refine l_q rfl (q_move rfl) ?_
              refine l_on rfl rfl ?_
              refine l_q rfl (q_indexAddr1 rfl rfl Tryd.underlying22 ty_size3 (by omega)) ?_
              refine l_on rfl rfl ?_
              refine l_q rfl (q_loadOwn rfl ty_agg3 tk hgd) ?_
              refine l_on rfl rfl ?_
              apply l_q rfl
              · apply q_bin rfl rfl (fun w => g_int w); exact fun w => b_gtr w
              first | refine l_q rfl (q_pick_t rfl rfl) ?_ | refine l_q rfl (q_pick_f rfl rfl) ?_
              refine l_nil ?_
              refine n_code ?_
              first | refine t_cond_d rfl (fun s2 => ?_) (fun s2 => ?_) | refine t_cond_n rfl (fun s2 => ?_) (fun s2 => ?_) | refine t_cond rfl (fun s2 => ?_) (fun s2 => ?_)
              · exact absurd ⟨s1, s2⟩ hmx
              · refine t_skip ?_
                refine n_code ?_
                refine t_region ?_
                refine l_q rfl (q_move rfl) ?_
                refine l_q rfl (q_move rfl) ?_
                refine l_q rfl (q_move rfl) ?_
                refine l_q rfl (q_indexAddr1 rfl rfl Tryd.underlying22 ty_size3 (by omega)) ?_
                refine l_q rfl (q_loadOwn rfl ty_agg3 tk hgd) ?_
                apply l_q rfl
                · apply q_bin rfl rfl (fun w => g_int w); first | exact fun w => b_add_i w (by omega) | exact fun w => b_add w
                refine l_q rfl (q_assign rfl) ?_
                refine l_nil ?_
                refine n_blk ?_
                refine n_code ?_
                refine t_region ?_
                apply l_q rfl
                · apply q_bin rfl rfl (fun w => g_int w); first | exact fun w => b_add_i w (by omega) | exact fun w => b_add w
                refine l_q rfl (q_move rfl) ?_
                refine l_nil ?_
                rw [hmk]
                apply n_again ((g + 1))
                · exact by omega
                · omega
                · exact ⟨rfl, rfl, rfl, rfl, rfl, rfl, rfl, rfl, rfl, trivial⟩
                · exact en
            · refine l_off rfl rfl rfl rfl ?_
              refine l_off rfl rfl rfl rfl ?_
              refine l_off rfl rfl rfl rfl ?_
              refine l_off rfl rfl rfl rfl ?_
              refine l_off rfl rfl rfl rfl ?_
              first | refine l_q rfl (q_pick_t rfl rfl) ?_ | refine l_q rfl (q_pick_f rfl rfl) ?_
              refine l_nil ?_
              refine n_code ?_
              refine t_cond_f rfl ?_
              refine t_skip ?_
              refine n_code ?_
              refine t_region ?_
              refine l_q rfl (q_move rfl) ?_
              refine l_q rfl (q_move rfl) ?_
              refine l_q rfl (q_move rfl) ?_
              refine l_q rfl (q_indexAddr1 rfl rfl Tryd.underlying22 ty_size3 (by omega)) ?_
              refine l_q rfl (q_loadOwn rfl ty_agg3 tk hgd) ?_
              apply l_q rfl
              · apply q_bin rfl rfl (fun w => g_int w); first | exact fun w => b_add_i w (by omega) | exact fun w => b_add w
              refine l_q rfl (q_assign rfl) ?_
              refine l_nil ?_
              refine n_blk ?_
              refine n_code ?_
              refine t_region ?_
              apply l_q rfl
              · apply q_bin rfl rfl (fun w => g_int w); first | exact fun w => b_add_i w (by omega) | exact fun w => b_add w
              refine l_q rfl (q_move rfl) ?_
              refine l_nil ?_
              rw [hmk]
              apply n_again ((g + 1))
              · exact by omega
              · omega
              · exact ⟨rfl, rfl, rfl, rfl, rfl, rfl, rfl, rfl, rfl, trivial⟩
              · exact en
          · refine t_exit ?_
            refine x_code ?_
            refine x_lp ?_
            refine x_hit ?_
            refine n_code ?_
            refine t_seq ?_
            refine t_seq ?_
            refine t_region ?_
            refine l_q rfl (q_move rfl) ?_
            first | refine l_q rfl (q_fieldAddr0 0 rfl Tryd.underlying75 rfl rfl ty_size3) ?_ | refine l_q rfl (q_fieldAddrK 0 rfl Tryd.underlying75 rfl rfl ty_size3) ?_
            refine l_q rfl (q_loadL rfl ty_agg3 tk ga) ?_
            apply l_q rfl
            · apply q_bin rfl rfl (fun w => g_int w); exact fun w => b_neq w
            refine l_q rfl (q_move rfl) ?_
            have hgn : g = n := by omega
            subst hgn
            have hcf := cnt_le isFull T.cells (8 * g)
            have hcd := cnt_le isDel T.cells (8 * g)
            first | refine l_part_d (t := 149) rfl (fun r1 => ?_) (fun r1 => ?_) | refine l_part_n (t := 149) rfl (fun r1 => ?_) (fun r1 => ?_) | refine l_part (t := 149) rfl (fun r1 => ?_) (fun r1 => ?_)
            · exact absurd hu.symm r1
            · refine l_on rfl rfl ?_
              first | refine l_q rfl (q_fieldAddr0 2 rfl Tryd.underlying75 rfl rfl ty_size3) ?_ | refine l_q rfl (q_fieldAddrK 2 rfl Tryd.underlying75 rfl rfl ty_size3) ?_
              refine l_on rfl rfl ?_
              refine l_q rfl (q_loadL rfl ty_agg3 tk ga) ?_
              refine l_on rfl rfl ?_
              first | refine l_q rfl (q_fieldAddr0 1 rfl Tryd.underlying75 rfl rfl ty_size3) ?_ | refine l_q rfl (q_fieldAddrK 1 rfl Tryd.underlying75 rfl rfl ty_size3) ?_
              refine l_on rfl rfl ?_
              refine l_q rfl (q_loadL rfl ty_agg3 tk ga) ?_
              refine l_on rfl rfl ?_
              apply l_q rfl
              · apply q_bin rfl rfl (fun w => g_int w); first | exact fun w => b_quo_i w (by omega) | exact fun w => b_quo w (by omega)
              refine l_on rfl rfl ?_
              apply l_q rfl
              · apply q_bin rfl rfl (fun w => g_int w); first | exact fun w => b_mul_i w (by omega) | exact fun w => b_mul w
              refine l_on rfl rfl ?_
              refine l_q rfl (q_move rfl) ?_
              refine l_on rfl rfl ?_
              apply l_q rfl
              · apply q_bin rfl rfl (fun w => g_int w); first | exact fun w => b_sub_i w (by omega) | exact fun w => b_sub w
              refine l_on rfl rfl ?_
              refine l_q rfl (q_move rfl) ?_
              refine l_on rfl rfl ?_
              apply l_q rfl
              · apply q_bin rfl rfl (fun w => g_int w); first | exact fun w => b_sub_i w (by omega) | exact fun w => b_sub w
              refine l_on rfl rfl ?_
              apply l_q rfl
              · apply q_bin rfl rfl (fun w => g_int w); exact fun w => b_neq w
              first | refine l_q rfl (q_pick_t rfl rfl) ?_ | refine l_q rfl (q_pick_f rfl rfl) ?_
              refine l_nil ?_
              refine n_code ?_
              first | refine t_cond_d rfl (fun r2 => ?_) (fun r2 => ?_) | refine t_cond_n rfl (fun r2 => ?_) (fun r2 => ?_) | refine t_cond rfl (fun r2 => ?_) (fun r2 => ?_)
              · omega
              · refine t_skip ?_
                refine n_code ?_
                refine t_seq ?_
                refine t_seq ?_
                refine t_region ?_
                refine l_q rfl (q_move rfl) ?_
                refine l_q rfl (q_nilCheck rfl) ?_
                first | refine l_q rfl (q_fieldAddr0 25 rfl Tryd.underlying69 rfl rfl ty_size67) ?_ | refine l_q rfl (q_fieldAddrK 25 rfl Tryd.underlying69 rfl rfl ty_size67) ?_
                refine l_q rfl (q_loadL rfl ty_agg67 tk ga) ?_
                refine l_q rfl (q_len rfl (fun w => len_slice Tryd.underlying67 w)) ?_
                refine l_q rfl (q_move rfl) ?_
                refine l_nil ?_
                refine n_code ?_
                refine t_block ?_
                refine t_loop (fun j : Nat => j ≤ lives.length) (fun j => [(0, .pointer (some ⟨pb, 0, none⟩)), (3, .pointer (some ⟨b3, 0, none⟩)), (5, .slice (some ⟨b50, 0, none⟩) g g), (8, .slice a8 (8 * g) cap8), (165, .slice a0 lives.length cap), (166, .int .i64 (lives.length : Nat)), (167, .int .i64 (j : Nat))]) (fun _ => pt b3 (.cells #[.int .i64 T.used, .int .i64 (8 * (g : Int)), .int .i64 T.left, .int .i64 T.depth, .int .i64 T.pins, .int .i64 T.next, .bool (decide (T.kind = 4)), .int .i64 (go : Nat)] 75 (0, 0)) :: pt pb (.cells #[.pointer (some ⟨pa, 0, none⟩), .int .i64 l.key, .int .i64 l.elem, .int .i64 l.ka, .int .i64 l.ea, .int .i64 l.cap, .int .i64 l.eo, .int .i64 l.bo, .int .i64 l.slot, .int .i64 l.group, .pointer (some ⟨pa, 0, none⟩), .int .i64 l.key, .int .i64 l.elem, .int .i64 l.ka, .int .i64 l.ea, .int .i64 l.cap, .int .i64 l.eo, .int .i64 l.bo, .int .i64 l.slot, .int .i64 l.group, .int .i64 ((off : Nat) : Int), vf, .int .i64 (8 * (g : Int)), vh, vt, (.slice a0 lives.length cap), .int .i64 ad] 69 (0, 0)) :: ownS 3 1 (.slice (some ⟨b50, 0, none⟩) g g) g (cntL isEmp T.cells g (8 * g)) :: ownS 122 5 (.slice a8 (8 * g) cap8) (8 * g) (rowOf cellV ((List.range (8 * g)).map T.cells)) :: ownS 145 5 (.slice a0 lives.length cap) lives.length (rowOf Life.cells lives) :: arenaH pa s :: Fr) (fun j => lives.length - j) 0 (Nat.zero_le _) ⟨rfl, rfl, rfl, rfl, rfl, rfl, rfl, trivial⟩ (by (exact en)) ?_
                intro j hj
                refine t_seq ?_
                refine t_region ?_
                apply l_q rfl
                · apply q_bin rfl rfl (fun w => g_int w); exact fun w => b_lss w
                refine l_nil ?_
                refine n_code ?_
                refine t_seq ?_
                first | refine t_cond_d rfl (fun g3 => ?_) (fun g3 => ?_) | refine t_cond_n rfl (fun g3 => ?_) (fun g3 => ?_) | refine t_cond rfl (fun g3 => ?_) (fun g3 => ?_)
                · skip
                  obtain ⟨lg, rfl⟩ := hsh (by omega)
                  obtain ⟨g8, rfl⟩ := hsh8 (by omega)
                  obtain ⟨u, hu3⟩ : ∃ u, lives[j]? = some u := ⟨lives[j], List.getElem?_eq_getElem (by omega)⟩
                  obtain ⟨h1, h2, h3, _⟩ := hI.found hu3
                  have huh := hhw u (List.mem_of_getElem? hu3)
                  have hcell : ∀ jj x, [Value.string u.key, .string u.elem, .int .u64 u.hash, .int .i64 u.birth, .int .i64 (u.slot : Nat)][jj]? = some x → CellAt (ownS 145 5 (.slice (some ⟨lg, 0, none⟩) lives.length cap) lives.length (rowOf Life.cells lives)) ((⟨lg, 0 + (j : Int).toNat * 5, none⟩ : Addr).add jj) x := fun jj x hx => by
                    have hj : jj < 5 := by rcases Nat.lt_or_ge jj 5 with q | q; exact q; rw [List.getElem?_eq_none (by simpa using q)] at hx; cases hx
                    rw [add_none, Nat.zero_add, Int.toNat_natCast]
                    exact own_cell (by rw [rowOf_get life5 lives j jj u hu3 hj]; exact hx)
                  have hkey : (rowOf cellV ((List.range (8 * g)).map T.cells))[0 + ((u.slot : Nat) : Int).toNat * 5 + 2]? = some (.string u.key) := by
                    rw [Nat.zero_add, Int.toNat_natCast, rowOf_get cellV5 _ u.slot 2 (T.cells u.slot) (by rw [List.getElem?_map, List.getElem?_range h1]; rfl) (by decide), h2]; rfl
                  have hsl8 : (Value.int .i64 (((u.slot : Nat) : Int) / 8)) = .int .i64 ((u.slot / 8 : Nat) : Int) := by congr 1
                  have hq128 : (Value.int .u64 (IntKind.u64.wrap (u.hash.tdiv 128))) = .int .u64 (u.hash / 128) := by congr 1; rw [Int.tdiv_eq_ediv_of_nonneg huh.1, wrap_u64 (by omega)]
                  have hway := hI.key.way u.slot h1 _ _ _ _ h2
                  rw [← h3] at hway
                  refine t_skip ?_
                  refine n_code ?_
                  refine t_seq ?_
                  refine t_block ?_
                  refine t_seq ?_
                  refine t_region ?_
                  refine l_q rfl (q_indexAddr rfl rfl Tryd.underlying67 ty_size145 (by omega)) ?_
                  apply l_q rfl
                  · apply q_loadRA (A := ownS 145 5 (.slice (some ⟨lg, 0, none⟩) lives.length cap) lives.length (rowOf Life.cells lives)) (us := [.string u.key, .string u.elem, .int .u64 u.hash, .int .i64 u.birth, .int .i64 (u.slot : Nat)]) rfl ty_agg145 ty_size145 rfl
                    · exact tk
                    · exact hcell
                  refine o_allocA rfl ty_zero145 (fun b15 => ?_)
                  apply o_storeAggL rfl rfl rfl ty_size145 rfl rfl (by simp)
                  · exact tk
                  · exact sal
                  refine l_nil ?_
                  refine n_code ?_
                  refine t_seq ?_
                  refine t_draw mixed ?_
                  apply d_q 0 gO rfl rfl rfl rfl
                  · apply yq
                    first | exact q_fieldAddr0 4 rfl Tryd.underlying145 rfl rfl ty_size3 | exact q_fieldAddrK 4 rfl Tryd.underlying145 rfl rfl ty_size3
                  refine d_q 1 gO rfl rfl rfl rfl (yq (q_loadL rfl ty_agg3 tk ga)) ?_
                  apply d_q 2 gO rfl rfl rfl rfl
                  · apply yq
                    apply q_bin rfl rfl (fun w => g_int w); exact fun w => b_lss w
                  refine d_q 3 gO rfl rfl rfl rfl (yq (q_move rfl)) ?_
                  first | refine d_part_d (t := 174) rfl (fun s1 => ?_) (fun s1 => ?_) | refine d_part_n (t := 174) rfl (fun s1 => ?_) (fun s1 => ?_) | refine d_part (t := 174) rfl (fun s1 => ?_) (fun s1 => ?_)
                  · omega
                  · apply d_q 4 gO rfl rfl rfl rfl
                    · apply yq_on rfl rfl
                      first | exact q_fieldAddr0 4 rfl Tryd.underlying145 rfl rfl ty_size3 | exact q_fieldAddrK 4 rfl Tryd.underlying145 rfl rfl ty_size3
                    refine d_q 5 gO rfl rfl rfl rfl (yq_on rfl rfl (q_loadL rfl ty_agg3 tk ga)) ?_
                    refine d_q 6 gO rfl rfl rfl rfl (yq_on rfl rfl (q_move rfl)) ?_
                    refine d_q 7 gO rfl rfl rfl rfl (yq_on rfl rfl (q_len rfl (fun w => len_slice Tryd.underlying148 w))) ?_
                    apply d_q 8 gO rfl rfl rfl rfl
                    · apply yq_on rfl rfl
                      apply q_bin rfl rfl (fun w => g_int w); exact fun w => b_geq w
                    apply d_q 9 gO rfl rfl rfl rfl
                    · apply yq
                      first | exact q_pick_t rfl rfl | exact q_pick_f rfl rfl
                    refine d_q 10 gO rfl rfl rfl rfl (yq (q_move rfl)) ?_
                    first | refine d_part_d (t := 181) rfl (fun s2 => ?_) (fun s2 => ?_) | refine d_part_n (t := 181) rfl (fun s2 => ?_) (fun s2 => ?_) | refine d_part (t := 181) rfl (fun s2 => ?_) (fun s2 => ?_)
                    · omega
                    · refine d_q 11 gO rfl rfl rfl rfl (yq_on rfl rfl (q_move rfl)) ?_
                      apply d_q 12 gO rfl rfl rfl rfl
                      · apply yq_on rfl rfl
                        first | exact q_fieldAddr0 4 rfl Tryd.underlying145 rfl rfl ty_size3 | exact q_fieldAddrK 4 rfl Tryd.underlying145 rfl rfl ty_size3
                      refine d_q 13 gO rfl rfl rfl rfl (yq_on rfl rfl (q_loadL rfl ty_agg3 tk ga)) ?_
                      refine d_q 14 gO rfl rfl rfl rfl (yq_on rfl rfl (q_indexAddr rfl rfl Tryd.underlying148 ty_size122 (by omega))) ?_
                      apply d_q 15 gO rfl rfl rfl rfl
                      · apply yq_on rfl rfl
                        first | exact q_fieldAddr0 2 rfl Tryd.underlying122 rfl rfl ty_size9 | exact q_fieldAddrK 2 rfl Tryd.underlying122 rfl rfl ty_size9
                      refine d_q 16 gO rfl rfl rfl rfl (yq_on rfl rfl (q_loadOwn rfl ty_agg9 tk hkey)) ?_
                      apply d_q 17 gO rfl rfl rfl rfl
                      · apply yq_on rfl rfl
                        first | exact q_fieldAddr0 0 rfl Tryd.underlying145 rfl rfl ty_size9 | exact q_fieldAddrK 0 rfl Tryd.underlying145 rfl rfl ty_size9
                      refine d_q 18 gO rfl rfl rfl rfl (yq_on rfl rfl (q_loadL rfl ty_agg9 tk ga)) ?_
                      apply d_q 19 gO rfl rfl rfl rfl
                      · apply yq_on rfl rfl
                        apply q_bin rfl rfl (fun w => g_string w); first | exact fun w => b_neqS w | exact fun w => b_neqS w (by omega)
                      apply d_q 20 gO rfl rfl rfl rfl
                      · apply yq
                        first | exact q_pick_t rfl rfl | exact q_pick_f rfl rfl
                      refine d_q 21 gO rfl rfl rfl rfl (yq (q_move rfl)) ?_
                      first | refine d_part_d (t := 192) rfl (fun s3 => ?_) (fun s3 => ?_) | refine d_part_n (t := 192) rfl (fun s3 => ?_) (fun s3 => ?_) | refine d_part (t := 192) rfl (fun s3 => ?_) (fun s3 => ?_)
                      · exact absurd rfl s3
                      · apply d_q 22 gO rfl rfl rfl rfl
                        · apply yq_on rfl rfl
                          first | exact q_fieldAddr0 2 rfl Tryd.underlying145 rfl rfl ty_size23 | exact q_fieldAddrK 2 rfl Tryd.underlying145 rfl rfl ty_size23
                        refine d_q 23 gO rfl rfl rfl rfl (yq_on rfl rfl (q_loadL rfl ty_agg23 tk ga)) ?_
                        refine d_q 24 gO rfl rfl rfl rfl (yq_on rfl rfl (QV.to (q_bin rfl rfl (fun w => g_int w) (fun w => b_quo w (by omega))) hq128)) ?_
                        apply d_q 25 gO rfl rfl rfl rfl
                        · apply yq_on rfl rfl
                          first | exact q_fieldAddr0 1 rfl Tryd.underlying75 rfl rfl ty_size3 | exact q_fieldAddrK 1 rfl Tryd.underlying75 rfl rfl ty_size3
                        refine d_q 26 gO rfl rfl rfl rfl (yq_on rfl rfl (q_loadL rfl ty_agg3 tk ga)) ?_
                        refine d_q 27 gO rfl rfl rfl rfl (yq_on rfl rfl (QV.to (q_bin rfl rfl (fun w => g_int w) (by first | exact fun w => b_quo_i w (by omega) | exact fun w => b_quo w (by omega))) hq8)) ?_
                        apply d_q 28 gO rfl rfl rfl rfl
                        · apply yq_on rfl rfl
                          first | exact q_fieldAddr0 4 rfl Tryd.underlying145 rfl rfl ty_size3 | exact q_fieldAddrK 4 rfl Tryd.underlying145 rfl rfl ty_size3
                        refine d_q 29 gO rfl rfl rfl rfl (yq_on rfl rfl (q_loadL rfl ty_agg3 tk ga)) ?_
                        refine d_q 30 gO rfl rfl rfl rfl (yq_on rfl rfl (QV.to (q_bin rfl rfl (fun w => g_int w) (by first | exact fun w => b_quo_i w (by omega) | exact fun w => b_quo w (by omega))) hsl8)) ?_
                        refine d_q 31 gO rfl rfl rfl rfl (yq_on rfl rfl (q_move rfl)) ?_
                        apply d_eff1 [24, 27, 30, 31, 21, 23, 26, 29, 20, 10, 22, 25, 28, 19, 9, 3, 16, 18, 8, 2, 15, 17, 5, 7, 1, 14, 4, 6, 0, 11, 13, 12] [] 32 [(195, _), (198, _), (201, _), (202, _), (192, _)]
                        · exact gO
                        · exact ⟨rfl, rfl, rfl, rfl, rfl, trivial⟩
                        · kernel_rfl
                        · kernel_rfl
                        intro Ex
                        refine l_on rfl rfl ?_
                        apply l_callf rfl rfl rfl (ahead_ok b50 g g e (u.slot / 8) (u.hash / 128) (by omega) hP.he hP.hn T.cells hway)
                        · exact pk
                        rintro v L' ⟨rfl, rfl⟩
                        refine l_nm ?_
                        refine l_nil ?_
                        apply n_d
                        · exact trivial
                        refine d_q 33 gO rfl rfl rfl rfl (yq_on rfl rfl (q_un rfl (fun w => u_not w))) ?_
                        apply d_q 34 gO rfl rfl rfl rfl
                        · apply yq
                          first | exact q_pick_t rfl rfl | exact q_pick_f rfl rfl
                        refine d_end (by kernel_rfl) ?_
                        refine n_code ?_
                        first | refine t_cond_d rfl (fun s4 => ?_) (fun s4 => ?_) | refine t_cond_n rfl (fun s4 => ?_) (fun s4 => ?_) | refine t_cond rfl (fun s4 => ?_) (fun s4 => ?_)
                        · cases s4
                        · refine t_skip ?_
                          refine n_blk ?_
                          refine n_code ?_
                          refine t_region ?_
                          apply l_q rfl
                          · apply q_bin rfl rfl (fun w => g_int w); first | exact fun w => b_add_i w (by omega) | exact fun w => b_add w
                          refine l_q rfl (q_move rfl) ?_
                          refine l_nil ?_
                          apply n_again ((j + 1))
                          · exact by omega
                          · omega
                          · exact ⟨rfl, rfl, rfl, rfl, rfl, rfl, rfl, trivial⟩
                          · exact en
                · refine t_exit ?_
                  refine x_code ?_
                  refine x_lp ?_
                  refine x_hit ?_
                  refine n_code ?_
                  refine t_seq ?_
                  refine t_region ?_
                  refine l_q rfl (q_assign rfl) ?_
                  refine l_nil ?_
                  refine n_code ?_
                  refine t_ret ?_
                  apply f_ret (.inl rfl) ([pt pb (.cells #[.pointer (some ⟨pa, 0, none⟩), .int .i64 l.key, .int .i64 l.elem, .int .i64 l.ka, .int .i64 l.ea, .int .i64 l.cap, .int .i64 l.eo, .int .i64 l.bo, .int .i64 l.slot, .int .i64 l.group, .pointer (some ⟨pa, 0, none⟩), .int .i64 l.key, .int .i64 l.elem, .int .i64 l.ka, .int .i64 l.ea, .int .i64 l.cap, .int .i64 l.eo, .int .i64 l.bo, .int .i64 l.slot, .int .i64 l.group, .int .i64 ((off : Nat) : Int), vf, .int .i64 (8 * (g : Int)), vh, vt, (.slice a0 lives.length cap), .int .i64 ad] 69 (0, 0)), ownS 145 5 (.slice a0 lives.length cap) lives.length (rowOf Life.cells lives), arenaH pa s])
                  · apply res1 rfl
                    · exact .tmp rfl
                  · exact ⟨rfl, rfl⟩
                  · exact en
end
end Go.Proofs.YthdmlgnhmbobaaaDoor.Bench
