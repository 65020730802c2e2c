/- More contracts of package table: finding, putting, deleting; a new table. -/
import Derived.Test.YthdmlgnhmbobaaaDoorTableP
set_option linter.unusedVariables false
set_option linter.unusedSimpArgs false
set_option maxRecDepth 100000
namespace Go.Proofs.YthdmlgnhmbobaaaDoor.Table
open Go.RowKit Go.Proofs Go.Proofs.YthdmlgnhmbobaaaDoor.Eng Go.Proofs.YthdmlgnhmbobaaaDoor.Ty Go.Proofs.YthdmlgnhmbobaaaDoor.Bits Go.Proofs.YthdmlgnhmbobaaaDoor.Mem Go.Proofs.YthdmlgnhmbobaaaDoor.Search Go.Proofs.YthdmlgnhmbobaaaDoor.Arena Go.Proofs.YthdmlgnhmbobaaaDoor.CtrlB Go.Proofs.YthdmlgnhmbobaaaDoor.Ctrl Go.Proofs.YthdmlgnhmbobaaaDoor.Layout Go.Proofs.YthdmlgnhmbobaaaDoor.GroupB Go.Proofs.YthdmlgnhmbobaaaDoor.Group Go.Proofs.YthdmlgnhmbobaaaDoor.Probe Go.Proofs.YthdmlgnhmbobaaaDoor.TableB Go.Proofs.YthdmlgnhmbobaaaDoor.TableI

section
variable (G : HP) (hG : TabOk G) (pa off go n e : Nat) (s : ArS) (l : Lay) (T : Tb) (hP : TabP s off go l n e T)
include hP
theorem StatP_ok : FnOk Tryd.prog 23 #[.agg #[.pointer (some ⟨pa, 0, none⟩), .int .i64 l.key, .int .i64 l.elem, .int .i64 l.ka, .int .i64 l.ea, .int .i64 l.cap, .int .i64 l.eo, .int .i64 l.bo, .int .i64 l.slot, .int .i64 l.group, .int .i64 (off : Nat)]] [arenaH pa s] (fun v L => v = .tuple #[.agg #[.int .i64 T.used, .int .i64 (8 * (n : Int)), .int .i64 T.left, .int .i64 T.depth, .int .i64 T.pins, .int .i64 T.next, .bool (decide (T.kind = 4)), .int .i64 (go : Nat)], .int .i64 0] ∧ L = [arenaH pa s]) :=
  Stat_ok pa off go n s l T hP.gh hP.hT.head hP.hr
theorem groupP_ok {g : Nat} (hok : s.ok) (hg : g < n) (i : Int) (hi : i = (g : Nat)) : FnOk Tryd.prog 38 #[.agg #[.pointer (some ⟨pa, 0, none⟩), .int .i64 l.key, .int .i64 l.elem, .int .i64 l.ka, .int .i64 l.ea, .int .i64 l.cap, .int .i64 l.eo, .int .i64 l.bo, .int .i64 l.slot, .int .i64 l.group, .int .i64 (off : Nat)], .agg #[.int .i64 T.used, .int .i64 (8 * (n : Int)), .int .i64 T.left, .int .i64 T.depth, .int .i64 T.pins, .int .i64 T.next, .bool (decide (T.kind = 4)), .int .i64 (go : Nat)], .int .i64 i] [] (fun v L => v = .agg #[.pointer (some ⟨pa, 0, none⟩), .int .i64 l.key, .int .i64 l.elem, .int .i64 l.ka, .int .i64 l.ea, .int .i64 l.cap, .int .i64 l.eo, .int .i64 l.bo, .int .i64 l.slot, .int .i64 l.group, .int .i64 ((go + g * gN l : Nat) : Int)] ∧ L = []) := by
  refine group_ok pa off go g n l hP.hl T i hi ?_
  have h1 := goodP.end_le hok hP.gg
  have h2 := hok.stop_eq
  obtain ⟨_, _, _, h3⟩ := hP.grpAt hg
  omega
theorem Cell_okP (k : Nat) (hk : k < 8 * n) : FnOk Tryd.prog 60 #[.agg #[.pointer (some ⟨pa, 0, none⟩), .int .i64 l.key, .int .i64 l.elem, .int .i64 l.ka, .int .i64 l.ea, .int .i64 l.cap, .int .i64 l.eo, .int .i64 l.bo, .int .i64 l.slot, .int .i64 l.group, .int .i64 (off : Nat)], .int .i64 k] [arenaH pa s] (fun v L => v = .tuple #[.agg #[.int .i64 (T.cells k).kind, .int .i64 (T.cells k).tagI, .string (T.cells k).keyS, .string (T.cells k).elemS, .int .i64 (T.cells k).birthI], .int .i64 0] ∧ L = [arenaH pa s]) := by
  have hn8 := hP.n0
  refine fn_intro en60 Tryd.func60 rfl rfl rfl ?_
  intro Fr w0
  refine t_nm ?_
  refine t_pure (φ := s.ok) (fun w hw => arena_ok hw .here) fun hok0 => ?_
  refine t_seq ?_
  refine t_region ?_
  refine o_boxA rfl rfl (fun b2 => ?_)
  refine o_allocA rfl ty_zero122 (fun b4 => ?_)
  refine l_q rfl (q_assign rfl) ?_
  refine l_nil ?_
  refine n_code ?_
  refine t_seq ?_
  refine t_region ?_
  refine l_q rfl (q_loadAggL rfl ty_agg36 ty_size36 tk sb) ?_
  apply l_callf rfl rfl rfl (StatP_ok pa off go n e s l T hP)
  · exact pk
  rintro v L' ⟨rfl, rfl⟩
  refine l_nm ?_
  refine l_q rfl (q_move rfl) ?_
  refine l_q rfl (q_extractL rfl ga) ?_
  refine l_q rfl (q_extractL rfl ga) ?_
  refine o_allocA rfl ty_zero75 (fun b6 => ?_)
  apply o_storeAggL rfl rfl rfl ty_size75 rfl rfl (by simp)
  · exact tk
  · exact sal
  refine l_q rfl (q_assign rfl) ?_
  refine l_nil ?_
  refine n_code ?_
  refine t_seq ?_
  refine t_seq ?_
  refine t_region ?_
  refine l_q rfl (q_move rfl) ?_
  apply l_q rfl
  · apply q_bin rfl rfl (fun w => g_int w); exact fun w => b_neq w
  refine l_nil ?_
  refine n_code ?_
  first | refine t_cond_d rfl (fun z => ?_) (fun z => ?_) | refine t_cond_n rfl (fun z => ?_) (fun z => ?_) | refine t_cond rfl (fun z => ?_) (fun z => ?_)
  · exact absurd rfl z
  · refine t_skip ?_
    refine n_code ?_
    refine t_seq ?_
    refine t_seq ?_
    refine t_region ?_
    refine l_q rfl (q_move rfl) ?_
    apply l_q rfl
    · apply q_bin rfl rfl (fun w => g_int w); exact fun w => b_lss w
    refine l_q rfl (q_move rfl) ?_
    first | refine l_part_d (t := 19) rfl (fun p1 => ?_) (fun p1 => ?_) | refine l_part_n (t := 19) rfl (fun p1 => ?_) (fun p1 => ?_) | refine l_part (t := 19) rfl (fun p1 => ?_) (fun p1 => ?_)
    · omega
    · refine l_on rfl rfl ?_
      refine l_q rfl (q_move rfl) ?_
      refine l_on rfl rfl ?_
      first | refine l_q rfl (q_fieldAddr0 1 rfl Tryd.underlying75 rfl rfl ty_size3) ?_ | refine l_q rfl (q_fieldAddrK 1 rfl Tryd.underlying75 rfl rfl ty_size3) ?_
      refine l_on rfl rfl ?_
      refine l_q rfl (q_loadL rfl ty_agg3 tk ga) ?_
      refine l_on rfl rfl ?_
      apply l_q rfl
      · apply q_bin rfl rfl (fun w => g_int w); exact fun w => b_geq w
      first | refine l_q rfl (q_pick_t rfl rfl) ?_ | refine l_q rfl (q_pick_f rfl rfl) ?_
      refine l_nil ?_
      refine n_code ?_
      first | refine t_cond_d rfl (fun p2 => ?_) (fun p2 => ?_) | refine t_cond_n rfl (fun p2 => ?_) (fun p2 => ?_) | refine t_cond rfl (fun p2 => ?_) (fun p2 => ?_)
      · omega
      · refine t_skip ?_
        refine n_code ?_
        refine t_seq ?_
        refine t_region ?_
        refine l_q rfl (q_loadAggL rfl ty_agg36 ty_size36 tk sb) ?_
        refine l_q rfl (q_loadAggL rfl ty_agg75 ty_size75 tk sb) ?_
        refine l_q rfl (q_move rfl) ?_
        apply l_q rfl
        · apply q_bin rfl rfl (fun w => g_int w); first | exact fun w => b_quo_i w (by omega) | exact fun w => b_quo w (by omega)
        obtain ⟨hgood, hG', hok', hin⟩ := hP.grpAt (g := k / 8) (by omega)
        apply l_callf rfl rfl rfl (groupP_ok pa off go n e s l T hP hok0 (g := k / 8) (by omega) _ (by omega))
        · exact pk
        rintro v L' ⟨rfl, rfl⟩
        refine l_nm ?_
        refine l_q rfl (q_move rfl) ?_
        apply l_q rfl
        · apply q_bin rfl rfl (fun w => g_int w); first | exact fun w => b_rem_i w (by omega) | exact fun w => b_rem w (by omega)
        rw [show ((k : Nat) : Int) % 8 = ((k % 8 : Nat) : Int) by omega]
        apply l_callf rfl rfl rfl (Cell_ok pa (go + k / 8 * gN l) s l (grpC T.cells (k / 8)) hP.hl hgood hG' hok' (k % 8) (by omega))
        · exact pk
        rintro v L' ⟨rfl, rfl⟩
        refine l_nm ?_
        rw [show grpC T.cells (k / 8) (k % 8) = T.cells k by show T.cells (8 * (k / 8) + k % 8) = _; congr 1; omega]
        refine l_q rfl (q_extractL rfl ga) ?_
        refine l_q rfl (q_extractL rfl ga) ?_
        apply o_storeAggL rfl rfl rfl ty_size122 rfl rfl (by simp)
        · exact tk
        · exact sal
        refine l_q rfl (q_assign rfl) ?_
        refine l_nil ?_
        refine n_code ?_
        refine t_ret ?_
        apply f_ret (.inl rfl) ([arenaH pa s])
        · apply res2 rfl
          · apply Rv.agg rfl
            · exact tk
            · exact run_loadAll ty_agg122 ty_size122 rfl
          · exact .tmp rfl
        · exact ⟨rfl, rfl⟩
        · exact en
theorem SetNext_ok (next : Int) (hb : -9223372036854775808 ≤ next ∧ next ≤ 9223372036854775807) : FnOk Tryd.prog 21 #[.agg #[.pointer (some ⟨pa, 0, none⟩), .int .i64 l.key, .int .i64 l.elem, .int .i64 l.ka, .int .i64 l.ea, .int .i64 l.cap, .int .i64 l.eo, .int .i64 l.bo, .int .i64 l.slot, .int .i64 l.group, .int .i64 (off : Nat)], .int .i64 next] [arenaH pa s]
    (fun v L => ∃ s', v = .int .i64 0 ∧ L = [arenaH pa s'] ∧ TabP s' off go l n e { T with next := next } ∧ SameBut s s' off go (n * gN l)) := by
  have hw := hP.word (T' := { T with next := next }) (k := 2) (by decide) hb rfl (head_ne (.inr rfl) (.inr rfl) (.inl rfl) (.inr rfl) (.inr rfl) (.inr rfl)) rfl
  refine fn_intro en21 Tryd.func21 rfl rfl rfl ?_
  intro Fr w0
  refine t_nm ?_
  refine t_seq ?_
  refine t_region ?_
  refine o_boxA rfl rfl (fun b2 => ?_)
  refine l_q rfl (q_assign rfl) ?_
  refine l_nil ?_
  refine n_code ?_
  refine t_seq ?_
  refine t_seq ?_
  refine t_region ?_
  refine l_q rfl (q_loadAggL rfl ty_agg36 ty_size36 tk sb) ?_
  apply l_callf rfl rfl rfl (StatP_ok pa off go n e s l T hP)
  · exact pk
  rintro v L' ⟨rfl, rfl⟩
  refine l_nm ?_
  refine l_q rfl (q_move rfl) ?_
  refine l_q rfl (q_extractL rfl ga) ?_
  refine l_q rfl (q_extractL rfl ga) ?_
  refine o_allocA rfl ty_zero75 (fun b5 => ?_)
  apply o_storeAggL rfl rfl rfl ty_size75 rfl rfl (by simp)
  · exact tk
  · exact sal
  refine l_q rfl (q_assign rfl) ?_
  refine l_nil ?_
  refine n_code ?_
  refine t_seq ?_
  refine t_region ?_
  refine l_q rfl (q_move rfl) ?_
  apply l_q rfl
  · apply q_bin rfl rfl (fun w => g_int w); exact fun w => b_neq w
  refine l_nil ?_
  refine n_code ?_
  first | refine t_cond_d rfl (fun z => ?_) (fun z => ?_) | refine t_cond_n rfl (fun z => ?_) (fun z => ?_) | refine t_cond rfl (fun z => ?_) (fun z => ?_)
  · exact absurd rfl z
  · refine t_skip ?_
    refine n_code ?_
    refine t_seq ?_
    refine t_region ?_
    refine l_q rfl (q_loadAggL rfl ty_agg36 ty_size36 tk sb) ?_
    refine l_q rfl (q_move rfl) ?_
    apply l_callf rfl rfl rfl (set_ok pa off 2 s l 16 next rfl (by decide) hP.gh)
    · exact pk
    rintro v L' rfl
    refine l_nm ?_
    refine l_nil ?_
    refine n_code ?_
    refine t_seq ?_
    refine t_region ?_
    refine l_q rfl (q_assign rfl) ?_
    refine l_nil ?_
    refine n_code ?_
    refine t_ret ?_
    apply f_ret (.inl rfl) ([arenaH pa (s.put (off + 8 * 2) 8 (byteN (IntKind.u64.wrap next)))])
    · apply res1 rfl
      · exact .tmp rfl
    · exact ⟨_, rfl, rfl, hw⟩
    · exact en
theorem Retire_ok (next : Int) (hb : -9223372036854775808 ≤ next ∧ next ≤ 9223372036854775807) : FnOk Tryd.prog 20 #[.agg #[.pointer (some ⟨pa, 0, none⟩), .int .i64 l.key, .int .i64 l.elem, .int .i64 l.ka, .int .i64 l.ea, .int .i64 l.cap, .int .i64 l.eo, .int .i64 l.bo, .int .i64 l.slot, .int .i64 l.group, .int .i64 (off : Nat)], .int .i64 next] [arenaH pa s]
    (fun v L => ∃ s', v = .int .i64 0 ∧ L = [arenaH pa s'] ∧ TabP s' off go l n e { T with next := next, kind := 4 } ∧ SameBut s s' off go (n * gN l)) := by
  refine fn_intro en20 Tryd.func20 rfl rfl rfl ?_
  intro Fr w0
  refine t_nm ?_
  refine t_seq ?_
  refine t_region ?_
  refine o_boxA rfl rfl (fun b2 => ?_)
  refine l_q rfl (q_assign rfl) ?_
  refine l_nil ?_
  refine n_code ?_
  refine t_seq ?_
  refine t_seq ?_
  refine t_region ?_
  refine l_q rfl (q_loadAggL rfl ty_agg36 ty_size36 tk sb) ?_
  refine l_q rfl (q_move rfl) ?_
  apply l_callf rfl rfl rfl (SetNext_ok pa off go n e s l T hP next hb)
  · exact pk
  rintro v L' ⟨s1, rfl, rfl, hP1, hS1⟩
  refine l_nm ?_
  refine l_q rfl (q_assign rfl) ?_
  refine l_nil ?_
  refine n_code ?_
  refine t_seq ?_
  refine t_region ?_
  refine l_q rfl (q_move rfl) ?_
  apply l_q rfl
  · apply q_bin rfl rfl (fun w => g_int w); exact fun w => b_neq w
  refine l_nil ?_
  refine n_code ?_
  first | refine t_cond_d rfl (fun z => ?_) (fun z => ?_) | refine t_cond_n rfl (fun z => ?_) (fun z => ?_) | refine t_cond rfl (fun z => ?_) (fun z => ?_)
  · exact absurd rfl z
  · refine t_skip ?_
    refine n_code ?_
    refine t_seq ?_
    refine t_region ?_
    refine l_q rfl (q_loadAggL rfl ty_agg36 ty_size36 tk sb) ?_
    have hw := hP1.word (T' := { T with next := next, kind := 4 }) (k := 0) (v := 4) (by decide) (by omega) rfl (head_ne (.inl rfl) (.inr rfl) (.inr rfl) (.inr rfl) (.inr rfl) (.inr rfl)) rfl
    apply l_callf rfl rfl rfl (set_ok pa off 0 s1 l 0 4 rfl (by decide) hP1.gh)
    · exact pk
    rintro v L' rfl
    refine l_nm ?_
    refine l_nil ?_
    refine n_code ?_
    refine t_seq ?_
    refine t_region ?_
    refine l_q rfl (q_assign rfl) ?_
    refine l_nil ?_
    refine n_code ?_
    refine t_ret ?_
    apply f_ret (.inl rfl) ([arenaH pa (s1.put (off + 8 * 0) 8 (byteN (IntKind.u64.wrap 4)))])
    · apply res1 rfl
      · exact .tmp rfl
    · exact ⟨_, rfl, rfl, hw.1, hS1.trans hw.2⟩
    · exact en
theorem Pin_ok (by_ : Int) (hb : -9223372036854775808 ≤ by_ ∧ by_ ≤ 9223372036854775807) (hpin : 0 ≤ T.pins ∧ T.pins ≤ 4611686018427387904) : FnOk Tryd.prog 19 #[.agg #[.pointer (some ⟨pa, 0, none⟩), .int .i64 l.key, .int .i64 l.elem, .int .i64 l.ka, .int .i64 l.ea, .int .i64 l.cap, .int .i64 l.eo, .int .i64 l.bo, .int .i64 l.slot, .int .i64 l.group, .int .i64 (off : Nat)], .int .i64 by_] [arenaH pa s]
    (fun v L => ((by_ < -T.pins ∨ 4611686018427387904 - T.pins < by_) ∧ v = .tuple #[.int .i64 0, .int .i64 83] ∧ L = [arenaH pa s]) ∨
      (-T.pins ≤ by_ ∧ by_ ≤ 4611686018427387904 - T.pins ∧ ∃ s', v = .tuple #[.int .i64 (T.pins + by_), .int .i64 0] ∧ L = [arenaH pa s'] ∧ TabP s' off go l n e { T with pins := T.pins + by_ } ∧ SameBut s s' off go (n * gN l))) := by
  have hneg : IntKind.i64.wrap (0 - T.pins) = -T.pins := by rw [wrap_i64 (by omega)]; omega
  refine fn_intro en19 Tryd.func19 rfl rfl rfl ?_
  intro Fr w0
  refine t_nm ?_
  refine t_seq ?_
  refine t_region ?_
  refine o_boxA rfl rfl (fun b2 => ?_)
  refine l_q rfl (q_assign rfl) ?_
  refine l_q rfl (q_assign rfl) ?_
  refine l_nil ?_
  refine n_code ?_
  refine t_seq ?_
  refine t_region ?_
  refine l_q rfl (q_loadAggL rfl ty_agg36 ty_size36 tk sb) ?_
  apply l_callf rfl rfl rfl (StatP_ok pa off go n e s l T hP)
  · exact pk
  rintro v L' ⟨rfl, rfl⟩
  refine l_nm ?_
  refine l_q rfl (q_move rfl) ?_
  refine l_q rfl (q_extractL rfl ga) ?_
  refine l_q rfl (q_extractL rfl ga) ?_
  refine o_allocA rfl ty_zero75 (fun b6 => ?_)
  apply o_storeAggL rfl rfl rfl ty_size75 rfl rfl (by simp)
  · exact tk
  · exact sal
  refine l_q rfl (q_assign rfl) ?_
  refine l_nil ?_
  refine n_code ?_
  refine t_seq ?_
  refine t_seq ?_
  refine t_region ?_
  refine l_q rfl (q_move rfl) ?_
  apply l_q rfl
  · apply q_bin rfl rfl (fun w => g_int w); exact fun w => b_neq w
  refine l_nil ?_
  refine n_code ?_
  first | refine t_cond_d rfl (fun z => ?_) (fun z => ?_) | refine t_cond_n rfl (fun z => ?_) (fun z => ?_) | refine t_cond rfl (fun z => ?_) (fun z => ?_)
  · exact absurd rfl z
  · refine t_skip ?_
    refine n_code ?_
    refine t_seq ?_
    refine t_seq ?_
    refine t_region ?_
    refine l_q rfl (q_move rfl) ?_
    first | refine l_q rfl (q_fieldAddr0 4 rfl Tryd.underlying75 rfl rfl ty_size3) ?_ | refine l_q rfl (q_fieldAddrK 4 rfl Tryd.underlying75 rfl rfl ty_size3) ?_
    refine l_q rfl (q_loadL rfl ty_agg3 tk ga) ?_
    refine l_q rfl (q_un rfl (fun w => u_neg w)) ?_
    apply l_q rfl
    · apply q_bin rfl rfl (fun w => g_int w); exact fun w => b_lss w
    refine l_q rfl (q_move rfl) ?_
    first | refine l_part_d (t := 21) rfl (fun p1 => ?_) (fun p1 => ?_) | refine l_part_n (t := 21) rfl (fun p1 => ?_) (fun p1 => ?_) | refine l_part (t := 21) rfl (fun p1 => ?_) (fun p1 => ?_)
    · refine l_off rfl rfl rfl rfl ?_
      refine l_off rfl rfl rfl rfl ?_
      refine l_off rfl rfl rfl rfl ?_
      refine l_off rfl rfl rfl rfl ?_
      refine l_off rfl rfl rfl rfl ?_
      first | refine l_q rfl (q_pick_t rfl rfl) ?_ | refine l_q rfl (q_pick_f rfl rfl) ?_
      refine l_nil ?_
      refine n_code ?_
      refine t_cond_t rfl ?_
      refine t_seq ?_
      refine t_region ?_
      refine l_q rfl (q_assign rfl) ?_
      refine l_q rfl (q_assign rfl) ?_
      refine l_nil ?_
      refine n_code ?_
      refine t_ret ?_
      refine r_code ?_
      rw [hneg] at p1
      apply f_ret (.inl rfl) ([arenaH pa s])
      · apply res2 rfl
        · exact .tmp rfl
        · exact .tmp rfl
      · exact .inl ⟨.inl p1, rfl, rfl⟩
      · exact en
    · refine l_on rfl rfl ?_
      refine l_q rfl (q_move rfl) ?_
      refine l_on rfl rfl ?_
      first | refine l_q rfl (q_fieldAddr0 4 rfl Tryd.underlying75 rfl rfl ty_size3) ?_ | refine l_q rfl (q_fieldAddrK 4 rfl Tryd.underlying75 rfl rfl ty_size3) ?_
      refine l_on rfl rfl ?_
      refine l_q rfl (q_loadL rfl ty_agg3 tk ga) ?_
      refine l_on rfl rfl ?_
      apply l_q rfl
      · apply q_bin rfl rfl (fun w => g_int w); first | exact fun w => b_sub_i w (by omega) | exact fun w => b_sub w
      refine l_on rfl rfl ?_
      apply l_q rfl
      · apply q_bin rfl rfl (fun w => g_int w); exact fun w => b_gtr w
      first | refine l_q rfl (q_pick_t rfl rfl) ?_ | refine l_q rfl (q_pick_f rfl rfl) ?_
      refine l_nil ?_
      refine n_code ?_
      rw [hneg] at p1
      first | refine t_cond_d rfl (fun p2 => ?_) (fun p2 => ?_) | refine t_cond_n rfl (fun p2 => ?_) (fun p2 => ?_) | refine t_cond rfl (fun p2 => ?_) (fun p2 => ?_)
      · refine t_seq ?_
        refine t_region ?_
        refine l_q rfl (q_assign rfl) ?_
        refine l_q rfl (q_assign rfl) ?_
        refine l_nil ?_
        refine n_code ?_
        refine t_ret ?_
        refine r_code ?_
        apply f_ret (.inl rfl) ([arenaH pa s])
        · apply res2 rfl
          · exact .tmp rfl
          · exact .tmp rfl
        · exact .inl ⟨.inr p2, rfl, rfl⟩
        · exact en
      · refine t_skip ?_
        refine n_code ?_
        refine t_seq ?_
        refine t_region ?_
        refine l_q rfl (q_loadAggL rfl ty_agg36 ty_size36 tk sb) ?_
        first | refine l_q rfl (q_fieldAddr0 4 rfl Tryd.underlying75 rfl rfl ty_size3) ?_ | refine l_q rfl (q_fieldAddrK 4 rfl Tryd.underlying75 rfl rfl ty_size3) ?_
        refine l_q rfl (q_loadL rfl ty_agg3 tk ga) ?_
        refine l_q rfl (q_move rfl) ?_
        apply l_q rfl
        · apply q_bin rfl rfl (fun w => g_int w); first | exact fun w => b_add_i w (by omega) | exact fun w => b_add w
        have hw := hP.word (T' := { T with pins := T.pins + by_ }) (k := 1) (v := T.pins + by_) (by decide) (by omega) rfl (head_ne (.inr rfl) (.inl rfl) (.inr rfl) (.inr rfl) (.inr rfl) (.inr rfl)) rfl
        apply l_callf rfl rfl rfl (set_ok pa off 1 s l 8 _ rfl (by decide) hP.gh)
        · exact pk
        rintro v L' rfl
        refine l_nm ?_
        refine l_nil ?_
        refine n_code ?_
        refine t_seq ?_
        refine t_region ?_
        first | refine l_q rfl (q_fieldAddr0 4 rfl Tryd.underlying75 rfl rfl ty_size3) ?_ | refine l_q rfl (q_fieldAddrK 4 rfl Tryd.underlying75 rfl rfl ty_size3) ?_
        refine l_q rfl (q_loadL rfl ty_agg3 tk ga) ?_
        refine l_q rfl (q_move rfl) ?_
        apply l_q rfl
        · apply q_bin rfl rfl (fun w => g_int w); first | exact fun w => b_add_i w (by omega) | exact fun w => b_add w
        refine l_q rfl (q_assign rfl) ?_
        refine l_q rfl (q_assign rfl) ?_
        refine l_nil ?_
        refine n_code ?_
        refine t_ret ?_
        apply f_ret (.inl rfl) ([arenaH pa (s.put (off + 8 * 1) 8 (byteN (IntKind.u64.wrap (T.pins + by_))))])
        · apply res2 rfl
          · exact .tmp rfl
          · exact .tmp rfl
        · exact .inr ⟨by omega, by omega, _, rfl, rfl, hw⟩
        · exact en
include hG
theorem searchP_ok (h : Int) (hh : 0 ≤ h ∧ h < 18446744073709551616) (key : ByteArray) (hk : key.size = kN l) :
    FnOk Tryd.prog 37 #[.agg #[.pointer (some ⟨pa, 0, none⟩), .int .i64 l.key, .int .i64 l.elem, .int .i64 l.ka, .int .i64 l.ea, .int .i64 l.cap, .int .i64 l.eo, .int .i64 l.bo, .int .i64 l.slot, .int .i64 l.group, .int .i64 (off : Nat)], .int .u64 h, .string key] [G, arenaH pa s]
      (fun v L => v = .tuple #[.agg #[.int .i64 T.used, .int .i64 (8 * (n : Int)), .int .i64 T.left, .int .i64 T.depth, .int .i64 T.pins, .int .i64 T.next, .bool (decide (T.kind = 4)), .int .i64 (go : Nat)], .agg #[.int .i64 (searchR (h / 128) n T.cells (h % 128) key).slot, .int .i64 (searchR (h / 128) n T.cells (h % 128) key).vac, .bool (searchR (h / 128) n T.cells (h % 128) key).emp, .int .i64 (searchR (h / 128) n T.cells (h % 128) key).probes], .int .i64 0] ∧ L = [G, arenaH pa s]) :=
  search_ok G hG pa off go n e s l T hP.hl hP.he hP.hn hP.hT hP.gh hP.gg hP.hr h hh key hk
theorem Find_ok (h : Int) (hh : 0 ≤ h ∧ h < 18446744073709551616) (key : ByteArray) (hk : key.size = kN l) :
    FnOk Tryd.prog 13 #[.agg #[.pointer (some ⟨pa, 0, none⟩), .int .i64 l.key, .int .i64 l.elem, .int .i64 l.ka, .int .i64 l.ea, .int .i64 l.cap, .int .i64 l.eo, .int .i64 l.bo, .int .i64 l.slot, .int .i64 l.group, .int .i64 (off : Nat)], .int .u64 h, .string key] [G, arenaH pa s]
      (fun v L => v = .tuple #[.int .i64 (searchR (h / 128) n T.cells (h % 128) key).slot, .int .i64 0] ∧ L = [G, arenaH pa s]) := by
  refine fn_intro en13 Tryd.func13 rfl rfl rfl ?_
  intro Fr w0
  refine t_nm ?_
  refine t_seq ?_
  refine t_region ?_
  refine o_boxA rfl rfl (fun b3 => ?_)
  refine l_q rfl (q_assign rfl) ?_
  refine l_q rfl (q_assign rfl) ?_
  refine l_nil ?_
  refine n_code ?_
  refine t_seq ?_
  refine t_region ?_
  refine l_q rfl (q_loadAggL rfl ty_agg36 ty_size36 tk sb) ?_
  refine l_q rfl (q_move rfl) ?_
  refine l_q rfl (q_move rfl) ?_
  apply l_callf rfl rfl rfl (searchP_ok G hG pa off go n e s l T hP h hh key hk)
  · exact pk
  rintro v L' ⟨rfl, rfl⟩
  refine l_nm ?_
  refine l_q rfl (q_move rfl) ?_
  refine l_q rfl (q_extractL rfl ga) ?_
  refine l_q rfl (q_extractL rfl ga) ?_
  refine l_q rfl (q_extractL rfl ga) ?_
  refine o_allocA rfl ty_zero75 (fun b8 => ?_)
  refine o_allocA rfl ty_zero102 (fun b9 => ?_)
  apply o_storeAggL rfl rfl rfl ty_size75 rfl rfl (by simp)
  · exact tk
  · exact sal
  apply o_storeAggL rfl rfl rfl ty_size102 rfl rfl (by simp)
  · exact tk
  · exact sal
  refine l_q rfl (q_assign rfl) ?_
  refine l_nil ?_
  refine n_code ?_
  refine t_seq ?_
  refine t_region ?_
  first | refine l_q rfl (q_fieldAddr0 0 rfl Tryd.underlying102 rfl rfl ty_size3) ?_ | refine l_q rfl (q_fieldAddrK 0 rfl Tryd.underlying102 rfl rfl ty_size3) ?_
  refine l_q rfl (q_loadL rfl ty_agg3 tk ga) ?_
  refine l_q rfl (q_move rfl) ?_
  refine l_q rfl (q_assign rfl) ?_
  refine l_q rfl (q_assign rfl) ?_
  refine l_nil ?_
  refine n_code ?_
  refine t_ret ?_
  apply f_ret (.inl rfl) ([G, arenaH pa s])
  · apply res2 rfl
    · exact .tmp rfl
    · exact .tmp rfl
  · exact ⟨rfl, rfl⟩
  · exact en
theorem Probes_ok (h : Int) (hh : 0 ≤ h ∧ h < 18446744073709551616) (key : ByteArray) (hk : key.size = kN l) :
    FnOk Tryd.prog 10 #[.agg #[.pointer (some ⟨pa, 0, none⟩), .int .i64 l.key, .int .i64 l.elem, .int .i64 l.ka, .int .i64 l.ea, .int .i64 l.cap, .int .i64 l.eo, .int .i64 l.bo, .int .i64 l.slot, .int .i64 l.group, .int .i64 (off : Nat)], .int .u64 h, .string key] [G, arenaH pa s]
      (fun v L => v = .tuple #[.int .i64 (searchR (h / 128) n T.cells (h % 128) key).probes, .int .i64 0] ∧ L = [G, arenaH pa s]) := by
  refine fn_intro en10 Tryd.func10 rfl rfl rfl ?_
  intro Fr w0
  refine t_nm ?_
  refine t_seq ?_
  refine t_region ?_
  refine o_boxA rfl rfl (fun b3 => ?_)
  refine l_q rfl (q_assign rfl) ?_
  refine l_q rfl (q_assign rfl) ?_
  refine l_nil ?_
  refine n_code ?_
  refine t_seq ?_
  refine t_region ?_
  refine l_q rfl (q_loadAggL rfl ty_agg36 ty_size36 tk sb) ?_
  refine l_q rfl (q_move rfl) ?_
  refine l_q rfl (q_move rfl) ?_
  apply l_callf rfl rfl rfl (searchP_ok G hG pa off go n e s l T hP h hh key hk)
  · exact pk
  rintro v L' ⟨rfl, rfl⟩
  refine l_nm ?_
  refine l_q rfl (q_move rfl) ?_
  refine l_q rfl (q_extractL rfl ga) ?_
  refine l_q rfl (q_extractL rfl ga) ?_
  refine l_q rfl (q_extractL rfl ga) ?_
  refine o_allocA rfl ty_zero75 (fun b8 => ?_)
  refine o_allocA rfl ty_zero102 (fun b9 => ?_)
  apply o_storeAggL rfl rfl rfl ty_size75 rfl rfl (by simp)
  · exact tk
  · exact sal
  apply o_storeAggL rfl rfl rfl ty_size102 rfl rfl (by simp)
  · exact tk
  · exact sal
  refine l_q rfl (q_assign rfl) ?_
  refine l_nil ?_
  refine n_code ?_
  refine t_seq ?_
  refine t_region ?_
  first | refine l_q rfl (q_fieldAddr0 3 rfl Tryd.underlying102 rfl rfl ty_size3) ?_ | refine l_q rfl (q_fieldAddrK 3 rfl Tryd.underlying102 rfl rfl ty_size3) ?_
  refine l_q rfl (q_loadL rfl ty_agg3 tk ga) ?_
  refine l_q rfl (q_move rfl) ?_
  refine l_q rfl (q_assign rfl) ?_
  refine l_q rfl (q_assign rfl) ?_
  refine l_nil ?_
  refine n_code ?_
  refine t_ret ?_
  apply f_ret (.inl rfl) ([G, arenaH pa s])
  · apply res2 rfl
    · exact .tmp rfl
    · exact .tmp rfl
  · exact ⟨rfl, rfl⟩
  · exact en
theorem Put_ok (h : Int) (hh : 0 ≤ h ∧ h < 18446744073709551616) (key elem : ByteArray) (hk : key.size = kN l) (he : elem.size = eN l) (birth : Int) (hb : 0 ≤ birth ∧ birth < 9223372036854775808) (hu : 0 ≤ T.used ∧ T.used ≤ 1099511627776) (hlf : 0 ≤ T.left ∧ T.left ≤ 1099511627776) :
    FnOk Tryd.prog 12 #[.agg #[.pointer (some ⟨pa, 0, none⟩), .int .i64 l.key, .int .i64 l.elem, .int .i64 l.ka, .int .i64 l.ea, .int .i64 l.cap, .int .i64 l.eo, .int .i64 l.bo, .int .i64 l.slot, .int .i64 l.group, .int .i64 (off : Nat)], .int .u64 h, .string key, .string elem, .int .i64 birth] [G, arenaH pa s]
      (fun v L => ∃ s', v = .tuple #[.int .i64 (putT n T h key elem birth).1, .int .i64 0] ∧ L = [G, arenaH pa s'] ∧ TabP s' off go l n e (putT n T h key elem birth).2 ∧ SameBut s s' off go (n * gN l)) := by
  have hn := hP.n0
  have hN := layN hP.hl
  have hes : (elem.size : Int) = l.elem := by rw [he]; exact hN.e
  refine fn_intro en12 Tryd.func12 rfl rfl rfl ?_
  intro Fr w0
  refine t_nm ?_
  refine t_pure (φ := s.ok) (fun w hw => arena_ok hw (.there .here)) fun hok0 => ?_
  refine t_seq ?_
  refine t_region ?_
  refine o_boxA rfl rfl (fun b5 => ?_)
  refine l_q rfl (q_assign rfl) ?_
  refine l_q rfl (q_assign rfl) ?_
  refine l_nil ?_
  refine n_code ?_
  refine t_seq ?_
  refine t_region ?_
  refine l_q rfl (q_loadAggL rfl ty_agg36 ty_size36 tk sb) ?_
  refine l_q rfl (q_move rfl) ?_
  refine l_q rfl (q_move rfl) ?_
  apply l_callf rfl rfl rfl (searchP_ok G hG pa off go n e s l T hP h hh key hk)
  · exact pk
  rintro v L' ⟨rfl, rfl⟩
  refine l_nm ?_
  refine l_q rfl (q_move rfl) ?_
  refine l_q rfl (q_extractL rfl ga) ?_
  refine l_q rfl (q_extractL rfl ga) ?_
  refine l_q rfl (q_extractL rfl ga) ?_
  refine o_allocA rfl ty_zero75 (fun b12 => ?_)
  refine o_allocA rfl ty_zero102 (fun b13 => ?_)
  apply o_storeAggL rfl rfl rfl ty_size75 rfl rfl (by simp)
  · exact tk
  · exact sal
  apply o_storeAggL rfl rfl rfl ty_size102 rfl rfl (by simp)
  · exact tk
  · exact sal
  refine l_q rfl (q_assign rfl) ?_
  refine l_nil ?_
  refine n_code ?_
  refine t_seq ?_
  refine t_block ?_
  refine t_seq ?_
  refine t_region ?_
  refine l_q rfl (q_move rfl) ?_
  apply l_q rfl
  · apply q_bin rfl rfl (fun w => g_int w); exact fun w => b_neq w
  refine l_q rfl (q_assign rfl) ?_
  refine l_nil ?_
  refine n_code ?_
  first | refine t_cond_d rfl (fun z => ?_) (fun z => ?_) | refine t_cond_n rfl (fun z => ?_) (fun z => ?_) | refine t_cond rfl (fun z => ?_) (fun z => ?_)
  · exact absurd rfl z
  · refine t_seq ?_
    refine t_region ?_
    refine l_q rfl (q_move rfl) ?_
    refine l_q rfl (q_len rfl (fun w => len_string Tryd.underlying9 w)) ?_
    first | refine l_q rfl (q_fieldAddr0 1 rfl Tryd.underlying36 rfl rfl ty_size27) ?_ | refine l_q rfl (q_fieldAddrK 1 rfl Tryd.underlying36 rfl rfl ty_size27) ?_
    first | refine l_q rfl (q_fieldAddr0 1 rfl Tryd.underlying27 rfl rfl ty_size3) ?_ | refine l_q rfl (q_fieldAddrK 1 rfl Tryd.underlying27 rfl rfl ty_size3) ?_
    refine l_q rfl (q_loadL rfl ty_agg3 tk ga) ?_
    apply l_q rfl
    · apply q_bin rfl rfl (fun w => g_int w); exact fun w => b_neq w
    refine l_q rfl (q_assign rfl) ?_
    refine l_nil ?_
    refine n_code ?_
    first | refine t_cond_d rfl (fun y => ?_) (fun y => ?_) | refine t_cond_n rfl (fun y => ?_) (fun y => ?_) | refine t_cond rfl (fun y => ?_) (fun y => ?_)
    · omega
    · refine t_seq ?_
      refine t_region ?_
      refine l_q rfl (q_move rfl) ?_
      apply l_q rfl
      · apply q_bin rfl rfl (fun w => g_int w); exact fun w => b_lss w
      refine l_q rfl (q_assign rfl) ?_
      refine l_nil ?_
      refine n_code ?_
      first | refine t_cond_d rfl (fun x => ?_) (fun x => ?_) | refine t_cond_n rfl (fun x => ?_) (fun x => ?_) | refine t_cond rfl (fun x => ?_) (fun x => ?_)
      · omega
      · refine t_seq ?_
        refine t_region ?_
        first | refine l_q rfl (q_fieldAddr0 0 rfl Tryd.underlying102 rfl rfl ty_size3) ?_ | refine l_q rfl (q_fieldAddrK 0 rfl Tryd.underlying102 rfl rfl ty_size3) ?_
        refine l_q rfl (q_loadL rfl ty_agg3 tk ga) ?_
        apply l_q rfl
        · apply q_bin rfl rfl (fun w => g_int w); exact fun w => b_geq w
        refine l_q rfl (q_assign rfl) ?_
        refine l_nil ?_
        refine n_code ?_
        rcases putT_cases hP h key elem birth with ⟨g, i, e0, b0, hg, hi, hs, hc, hp⟩ | ⟨hs, hv, hp⟩ | ⟨g, i, hg, hi, hs, hv, hnf, hem, hno, hp⟩
        · rw [hp, hs]
          obtain ⟨hgood, hG', hok', hin⟩ := hP.grpAt hg
          have hcok := hok' i hi
          have hcg : grpC T.cells g i = .full (h % 128) key e0 b0 := hc
          rw [hcg] at hcok
          first | refine t_cond_d rfl (fun q => ?_) (fun q => ?_) | refine t_cond_n rfl (fun q => ?_) (fun q => ?_) | refine t_cond rfl (fun q => ?_) (fun q => ?_)
          · refine t_seq ?_
            refine t_draw mixed ?_
            refine d_q 0 gO rfl rfl rfl rfl (yq (q_loadAggL rfl ty_agg36 ty_size36 tk sb)) ?_
            refine d_q 1 gO rfl rfl rfl rfl (yq (q_loadAggL rfl ty_agg75 ty_size75 tk sb)) ?_
            apply d_q 2 gO rfl rfl rfl rfl
            · apply yq
              first | exact q_fieldAddr0 0 rfl Tryd.underlying102 rfl rfl ty_size3 | exact q_fieldAddrK 0 rfl Tryd.underlying102 rfl rfl ty_size3
            refine d_q 3 gO rfl rfl rfl rfl (yq (q_loadL rfl ty_agg3 tk ga)) ?_
            apply d_q 4 gO rfl rfl rfl rfl
            · apply yq
              apply q_bin rfl rfl (fun w => g_int w); first | exact fun w => b_quo_i w (by omega) | exact fun w => b_quo w (by omega)
            apply d_q 6 gO rfl rfl rfl rfl
            · apply yq
              first | exact q_fieldAddr0 0 rfl Tryd.underlying102 rfl rfl ty_size3 | exact q_fieldAddrK 0 rfl Tryd.underlying102 rfl rfl ty_size3
            refine d_q 7 gO rfl rfl rfl rfl (yq (q_loadL rfl ty_agg3 tk ga)) ?_
            apply d_q 8 gO rfl rfl rfl rfl
            · apply yq
              apply q_bin rfl rfl (fun w => g_int w); first | exact fun w => b_rem_i w (by omega) | exact fun w => b_rem w (by omega)
            refine d_q 9 gO rfl rfl rfl rfl (yq (q_move rfl)) ?_
            apply d_eff1 [0, 1, 4, 3, 2] [9, 8, 7, 6] 5 [(42, _), (43, _), (46, _)]
            · exact gO
            · exact ⟨rfl, rfl, rfl, trivial⟩
            · kernel_rfl
            · kernel_rfl
            intro Ex
            apply l_callf rfl rfl rfl (groupP_ok pa off go n e s l T hP hok0 hg _ (by omega))
            · exact pk
            rintro v L' ⟨rfl, rfl⟩
            refine l_nm ?_
            refine l_nil ?_
            apply n_d
            · refine ⟨?_, ?_, ?_, ?_, trivial⟩
              · exact yat gO rfl rfl rfl (yq (q_move rfl))
              · refine yat gO rfl rfl rfl ?_
                apply yq
                apply q_bin rfl rfl (fun w => g_int w); first | exact fun w => b_rem_i w (by omega) | exact fun w => b_rem w (by omega)
              · exact yat gO rfl rfl rfl (yq (q_loadL rfl ty_agg3 tk ga))
              · refine yat gO rfl rfl rfl ?_
                apply yq
                first | exact q_fieldAddr0 0 rfl Tryd.underlying102 rfl rfl ty_size3 | exact q_fieldAddrK 0 rfl Tryd.underlying102 rfl rfl ty_size3
            apply d_eff1 [8, 9, 7, 6] [] 10 [(47, _), (50, _), (51, _)]
            · exact gO
            · exact ⟨rfl, rfl, rfl, trivial⟩
            · kernel_rfl
            · kernel_rfl
            intro Ex
            rw [show ((8 * g + i : Nat) : Int) % 8 = ((i : Nat) : Int) by omega]
            apply l_callf rfl rfl rfl (SetElem_ok pa (go + g * gN l) s l (grpC T.cells g) hP.hl hgood hG' hok' i (h % 128) key e0 elem b0 hi hcg he)
            · exact pk
            rintro v L' ⟨rfl, rfl⟩
            refine l_nm ?_
            refine l_nil ?_
            apply n_d
            · exact trivial
            apply d_eff1 [] [] 11 []
            · exact gO
            · exact trivial
            · kernel_rfl
            · kernel_rfl
            intro Ex
            refine l_q rfl (q_assign rfl) ?_
            refine l_nil ?_
            apply n_d
            · exact trivial
            apply d_eff1 [] [] 12 [(52, _)]
            · exact gO
            · exact ⟨rfl, trivial⟩
            · kernel_rfl
            · kernel_rfl
            intro Ex
            refine l_q rfl (q_assign rfl) ?_
            refine l_nil ?_
            apply n_d
            · exact trivial
            refine d_end (by kernel_rfl) ?_
            refine n_code ?_
            refine t_ret ?_
            refine r_blk ?_
            refine r_code ?_
            have hw := hP.cell hg hi (c := .full (h % 128) key elem b0) (by obtain ⟨c1, c2, c3, c4, c5⟩ := hcok; exact ⟨c1, c2, c3, he, c5⟩)
            apply f_ret (.inl rfl) ([G, arenaH pa (s.put (go + g * gN l) (gN l) (encG l (updC (grpC T.cells g) i (.full (h % 128) key elem b0))))])
            · apply res2 rfl
              · exact .tmp rfl
              · exact .tmp rfl
            · exact ⟨_, rfl, rfl, hw⟩
            · exact en
          · omega
        · rw [hp]
          first | refine t_cond_d rfl (fun q => ?_) (fun q => ?_) | refine t_cond_n rfl (fun q => ?_) (fun q => ?_) | refine t_cond rfl (fun q => ?_) (fun q => ?_)
          · omega
          · refine t_seq ?_
            refine t_region ?_
            first | refine l_q rfl (q_fieldAddr0 1 rfl Tryd.underlying102 rfl rfl ty_size3) ?_ | refine l_q rfl (q_fieldAddrK 1 rfl Tryd.underlying102 rfl rfl ty_size3) ?_
            refine l_q rfl (q_loadL rfl ty_agg3 tk ga) ?_
            apply l_q rfl
            · apply q_bin rfl rfl (fun w => g_int w); exact fun w => b_lss w
            refine l_q rfl (q_move rfl) ?_
            first | refine l_part_d (t := 57) rfl (fun v1 => ?_) (fun v1 => ?_) | refine l_part_n (t := 57) rfl (fun v1 => ?_) (fun v1 => ?_) | refine l_part (t := 57) rfl (fun v1 => ?_) (fun v1 => ?_)
            · refine l_off rfl rfl rfl rfl ?_
              refine l_off rfl rfl rfl rfl ?_
              refine l_off rfl rfl rfl rfl ?_
              refine l_offu rfl rfl rfl ?_
              refine l_offu rfl rfl rfl ?_
              refine l_offu rfl rfl rfl ?_
              refine l_off rfl rfl rfl rfl ?_
              first | refine l_q rfl (q_pick_t rfl rfl) ?_ | refine l_q rfl (q_pick_f rfl rfl) ?_
              refine l_q rfl (q_assign rfl) ?_
              refine l_nil ?_
              refine n_code ?_
              refine t_cond_t rfl ?_
              refine t_seq ?_
              refine t_region ?_
              refine l_q rfl (q_assign rfl) ?_
              refine l_q rfl (q_assign rfl) ?_
              refine l_nil ?_
              refine n_code ?_
              refine t_ret ?_
              refine r_blk ?_
              refine r_code ?_
              apply f_ret (.inl rfl) ([G, arenaH pa s])
              · apply res2 rfl
                · exact .tmp rfl
                · exact .tmp rfl
              · exact ⟨s, rfl, rfl, hP, SameBut.refl _ _ _ _⟩
              · exact en
            · refine l_on rfl rfl ?_
              first | refine l_q rfl (q_fieldAddr0 2 rfl Tryd.underlying102 rfl rfl ty_size4) ?_ | refine l_q rfl (q_fieldAddrK 2 rfl Tryd.underlying102 rfl rfl ty_size4) ?_
              refine l_on rfl rfl ?_
              refine l_q rfl (q_loadL rfl ty_agg4 tk ga) ?_
              refine l_on rfl rfl ?_
              refine l_q rfl (q_move rfl) ?_
              have hv2 := hv.resolve_left v1
              first | refine l_part_d (t := 60) rfl (fun v2 => ?_) (fun v2 => ?_) | refine l_part_n (t := 60) rfl (fun v2 => ?_) (fun v2 => ?_) | refine l_part (t := 60) rfl (fun v2 => ?_) (fun v2 => ?_)
              · refine l_on rfl rfl ?_
                first | refine l_q rfl (q_fieldAddr0 2 rfl Tryd.underlying75 rfl rfl ty_size3) ?_ | refine l_q rfl (q_fieldAddrK 2 rfl Tryd.underlying75 rfl rfl ty_size3) ?_
                refine l_on rfl rfl ?_
                refine l_q rfl (q_loadL rfl ty_agg3 tk ga) ?_
                refine l_on rfl rfl ?_
                apply l_q rfl
                · apply q_bin rfl rfl (fun w => g_int w); exact fun w => b_eql w
                refine l_on rfl rfl ?_
                first | refine l_q rfl (q_pick_t rfl rfl) ?_ | refine l_q rfl (q_pick_f rfl rfl) ?_
                first | refine l_q rfl (q_pick_t rfl rfl) ?_ | refine l_q rfl (q_pick_f rfl rfl) ?_
                refine l_q rfl (q_assign rfl) ?_
                refine l_nil ?_
                refine n_code ?_
                first | refine t_cond_d rfl (fun v3 => ?_) (fun v3 => ?_) | refine t_cond_n rfl (fun v3 => ?_) (fun v3 => ?_) | refine t_cond rfl (fun v3 => ?_) (fun v3 => ?_)
                · refine t_seq ?_
                  refine t_region ?_
                  refine l_q rfl (q_assign rfl) ?_
                  refine l_q rfl (q_assign rfl) ?_
                  refine l_nil ?_
                  refine n_code ?_
                  refine t_ret ?_
                  refine r_blk ?_
                  refine r_code ?_
                  apply f_ret (.inl rfl) ([G, arenaH pa s])
                  · apply res2 rfl
                    · exact .tmp rfl
                    · exact .tmp rfl
                  · exact ⟨s, rfl, rfl, hP, SameBut.refl _ _ _ _⟩
                  · exact en
                · exact absurd hv2.2 v3
              · rw [hv2.1] at v2; cases v2
        · rw [hp]
          obtain ⟨hgood, hG', hok', hin⟩ := hP.grpAt hg
          obtain ⟨t, htt, ht128⟩ : ∃ t : Nat, h % 128 = (t : Nat) ∧ t < 128 := ⟨(h % 128).toNat, by omega, by omega⟩
          have hcell : (Cell.full (h % 128) key elem birth).ok l := ⟨by omega, by omega, hk, he, hb.1, hb.2⟩
          have hw := hP.cell hg hi hcell
          rw [hv, hem]
          first | refine t_cond_d rfl (fun q => ?_) (fun q => ?_) | refine t_cond_n rfl (fun q => ?_) (fun q => ?_) | refine t_cond rfl (fun q => ?_) (fun q => ?_)
          · omega
          · refine t_seq ?_
            refine t_region ?_
            first | refine l_q rfl (q_fieldAddr0 1 rfl Tryd.underlying102 rfl rfl ty_size3) ?_ | refine l_q rfl (q_fieldAddrK 1 rfl Tryd.underlying102 rfl rfl ty_size3) ?_
            refine l_q rfl (q_loadL rfl ty_agg3 tk ga) ?_
            apply l_q rfl
            · apply q_bin rfl rfl (fun w => g_int w); exact fun w => b_lss w
            refine l_q rfl (q_move rfl) ?_
            first | refine l_part_d (t := 57) rfl (fun v1 => ?_) (fun v1 => ?_) | refine l_part_n (t := 57) rfl (fun v1 => ?_) (fun v1 => ?_) | refine l_part (t := 57) rfl (fun v1 => ?_) (fun v1 => ?_)
            · omega
            · refine l_on rfl rfl ?_
              first | refine l_q rfl (q_fieldAddr0 2 rfl Tryd.underlying102 rfl rfl ty_size4) ?_ | refine l_q rfl (q_fieldAddrK 2 rfl Tryd.underlying102 rfl rfl ty_size4) ?_
              refine l_on rfl rfl ?_
              refine l_q rfl (q_loadL rfl ty_agg4 tk ga) ?_
              refine l_on rfl rfl ?_
              refine l_q rfl (q_move rfl) ?_
              first | refine l_part_d (t := 60) rfl (fun v2 => ?_) (fun v2 => ?_) | refine l_part_n (t := 60) rfl (fun v2 => ?_) (fun v2 => ?_) | refine l_part (t := 60) rfl (fun v2 => ?_) (fun v2 => ?_)
              · refine l_on rfl rfl ?_
                first | refine l_q rfl (q_fieldAddr0 2 rfl Tryd.underlying75 rfl rfl ty_size3) ?_ | refine l_q rfl (q_fieldAddrK 2 rfl Tryd.underlying75 rfl rfl ty_size3) ?_
                refine l_on rfl rfl ?_
                refine l_q rfl (q_loadL rfl ty_agg3 tk ga) ?_
                refine l_on rfl rfl ?_
                apply l_q rfl
                · apply q_bin rfl rfl (fun w => g_int w); exact fun w => b_eql w
                refine l_on rfl rfl ?_
                first | refine l_q rfl (q_pick_t rfl rfl) ?_ | refine l_q rfl (q_pick_f rfl rfl) ?_
                first | refine l_q rfl (q_pick_t rfl rfl) ?_ | refine l_q rfl (q_pick_f rfl rfl) ?_
                refine l_q rfl (q_assign rfl) ?_
                refine l_nil ?_
                refine n_code ?_
                first | refine t_cond_d rfl (fun v3 => ?_) (fun v3 => ?_) | refine t_cond_n rfl (fun v3 => ?_) (fun v3 => ?_) | refine t_cond rfl (fun v3 => ?_) (fun v3 => ?_)
                · exact absurd ⟨v2, v3⟩ hno
                · have w1 := hw.1.word (T' := { T with used := T.used + 1, cells := updC T.cells (8 * g + i) (.full (h % 128) key elem birth) }) (k := 3) (v := T.used + 1) (by decide) (by omega) rfl (head_ne (.inr rfl) (.inr rfl) (.inr rfl) (.inl rfl) (.inr rfl) (.inr rfl)) rfl
                  have w2 := w1.1.word (T' := { T with used := T.used + 1, left := T.left - 1, cells := updC T.cells (8 * g + i) (.full (h % 128) key elem birth) }) (k := 5) (v := T.left - 1) (by decide) (by omega) rfl (head_ne (.inr rfl) (.inr rfl) (.inr rfl) (.inr rfl) (.inl rfl) (.inr rfl)) rfl
                  refine t_skip ?_
                  refine n_blk ?_
                  refine n_code ?_
                  refine t_seq ?_
                  refine t_seq ?_
                  refine t_draw mixed ?_
                  refine d_q 0 gO rfl rfl rfl rfl (yq (q_loadAggL rfl ty_agg36 ty_size36 tk sb)) ?_
                  refine d_q 1 gO rfl rfl rfl rfl (yq (q_loadAggL rfl ty_agg75 ty_size75 tk sb)) ?_
                  apply d_q 2 gO rfl rfl rfl rfl
                  · apply yq
                    first | exact q_fieldAddr0 1 rfl Tryd.underlying102 rfl rfl ty_size3 | exact q_fieldAddrK 1 rfl Tryd.underlying102 rfl rfl ty_size3
                  refine d_q 3 gO rfl rfl rfl rfl (yq (q_loadL rfl ty_agg3 tk ga)) ?_
                  apply d_q 4 gO rfl rfl rfl rfl
                  · apply yq
                    apply q_bin rfl rfl (fun w => g_int w); first | exact fun w => b_quo_i w (by omega) | exact fun w => b_quo w (by omega)
                  apply d_q 6 gO rfl rfl rfl rfl
                  · apply yq
                    first | exact q_fieldAddr0 1 rfl Tryd.underlying102 rfl rfl ty_size3 | exact q_fieldAddrK 1 rfl Tryd.underlying102 rfl rfl ty_size3
                  refine d_q 7 gO rfl rfl rfl rfl (yq (q_loadL rfl ty_agg3 tk ga)) ?_
                  apply d_q 8 gO rfl rfl rfl rfl
                  · apply yq
                    apply q_bin rfl rfl (fun w => g_int w); first | exact fun w => b_rem_i w (by omega) | exact fun w => b_rem w (by omega)
                  refine d_q 9 gO rfl rfl rfl rfl (yq (q_move rfl)) ?_
                  refine d_q 11 gO rfl rfl rfl rfl (yq (q_move rfl)) ?_
                  refine d_q 12 gO rfl rfl rfl rfl (yq (q_move rfl)) ?_
                  refine d_q 13 gO rfl rfl rfl rfl (yq (q_move rfl)) ?_
                  apply d_eff1 [0, 1, 4, 3, 2] [13, 12, 11, 9, 8, 7, 6] 5 [(66, _), (67, _), (70, _)]
                  · exact gO
                  · exact ⟨rfl, rfl, rfl, trivial⟩
                  · kernel_rfl
                  · kernel_rfl
                  intro Ex
                  apply l_callf rfl rfl rfl (groupP_ok pa off go n e s l T hP hok0 hg _ (by omega))
                  · exact pk
                  rintro v L' ⟨rfl, rfl⟩
                  refine l_nm ?_
                  refine l_nil ?_
                  apply n_d
                  · refine ⟨?_, ?_, ?_, ?_, ?_, ?_, ?_, trivial⟩
                    · exact yat gO rfl rfl rfl (yq (q_move rfl))
                    · exact yat gO rfl rfl rfl (yq (q_move rfl))
                    · exact yat gO rfl rfl rfl (yq (q_move rfl))
                    · exact yat gO rfl rfl rfl (yq (q_move rfl))
                    · refine yat gO rfl rfl rfl ?_
                      apply yq
                      apply q_bin rfl rfl (fun w => g_int w); first | exact fun w => b_rem_i w (by omega) | exact fun w => b_rem w (by omega)
                    · exact yat gO rfl rfl rfl (yq (q_loadL rfl ty_agg3 tk ga))
                    · refine yat gO rfl rfl rfl ?_
                      apply yq
                      first | exact q_fieldAddr0 1 rfl Tryd.underlying102 rfl rfl ty_size3 | exact q_fieldAddrK 1 rfl Tryd.underlying102 rfl rfl ty_size3
                  apply d_eff1 [9] [13, 12, 11, 8, 7, 6] 10 [(75, _)]
                  · exact gO
                  · exact ⟨rfl, trivial⟩
                  · kernel_rfl
                  · kernel_rfl
                  intro Ex
                  apply l_callf rfl rfl rfl (Tag_okN h hh t htt)
                  · exact pk
                  rintro v L' ⟨rfl, rfl⟩
                  refine l_nm ?_
                  refine l_nil ?_
                  apply n_d
                  · refine ⟨?_, ?_, ?_, ?_, ?_, ?_, trivial⟩
                    · exact yat gO rfl rfl rfl (yq (q_move rfl))
                    · exact yat gO rfl rfl rfl (yq (q_move rfl))
                    · exact yat gO rfl rfl rfl (yq (q_move rfl))
                    · refine yat gO rfl rfl rfl ?_
                      apply yq
                      apply q_bin rfl rfl (fun w => g_int w); first | exact fun w => b_rem_i w (by omega) | exact fun w => b_rem w (by omega)
                    · exact yat gO rfl rfl rfl (yq (q_loadL rfl ty_agg3 tk ga))
                    · refine yat gO rfl rfl rfl ?_
                      apply yq
                      first | exact q_fieldAddr0 1 rfl Tryd.underlying102 rfl rfl ty_size3 | exact q_fieldAddrK 1 rfl Tryd.underlying102 rfl rfl ty_size3
                  apply d_eff1 [8, 11, 12, 13, 7, 6] [] 14 [(71, _), (74, _), (76, _), (77, _), (78, _), (79, _)]
                  · exact gO
                  · exact ⟨rfl, rfl, rfl, rfl, rfl, rfl, trivial⟩
                  · kernel_rfl
                  · kernel_rfl
                  intro Ex
                  rw [show ((8 * g + i : Nat) : Int) % 8 = ((i : Nat) : Int) by omega]
                  apply l_callf rfl rfl rfl (Fill_ok pa (go + g * gN l) s l (grpC T.cells g) hP.hl hgood hG' hok' i t key elem birth hi ht128 hk he hb)
                  · exact pk
                  rintro v L' ⟨rfl, rfl⟩
                  refine l_nm ?_
                  rw [← htt]
                  refine l_nil ?_
                  apply n_d
                  · exact trivial
                  apply d_eff1 [] [] 15 [(80, _)]
                  · exact gO
                  · exact ⟨rfl, trivial⟩
                  · kernel_rfl
                  · kernel_rfl
                  intro Ex
                  refine l_q rfl (q_assign rfl) ?_
                  refine l_nil ?_
                  apply n_d
                  · exact trivial
                  refine d_end (by kernel_rfl) ?_
                  refine n_code ?_
                  refine t_seq ?_
                  refine t_region ?_
                  refine l_q rfl (q_move rfl) ?_
                  apply l_q rfl
                  · apply q_bin rfl rfl (fun w => g_int w); exact fun w => b_neq w
                  refine l_nil ?_
                  refine n_code ?_
                  first | refine t_cond_d rfl (fun v5 => ?_) (fun v5 => ?_) | refine t_cond_n rfl (fun v5 => ?_) (fun v5 => ?_) | refine t_cond rfl (fun v5 => ?_) (fun v5 => ?_)
                  · exact absurd rfl v5
                  · refine t_skip ?_
                    refine n_code ?_
                    refine t_seq ?_
                    refine t_region ?_
                    refine l_q rfl (q_loadAggL rfl ty_agg36 ty_size36 tk sb) ?_
                    first | refine l_q rfl (q_fieldAddr0 0 rfl Tryd.underlying75 rfl rfl ty_size3) ?_ | refine l_q rfl (q_fieldAddrK 0 rfl Tryd.underlying75 rfl rfl ty_size3) ?_
                    refine l_q rfl (q_loadL rfl ty_agg3 tk ga) ?_
                    apply l_q rfl
                    · apply q_bin rfl rfl (fun w => g_int w); first | exact fun w => b_add_i w (by omega) | exact fun w => b_add w
                    apply l_callf rfl rfl rfl (set_ok pa off 3 _ l 24 _ rfl (by decide) hw.1.gh)
                    · exact pk
                    rintro v L' rfl
                    refine l_nm ?_
                    refine l_nil ?_
                    refine n_code ?_
                    refine t_seq ?_
                    refine t_seq ?_
                    refine t_region ?_
                    first | refine l_q rfl (q_fieldAddr0 2 rfl Tryd.underlying102 rfl rfl ty_size4) ?_ | refine l_q rfl (q_fieldAddrK 2 rfl Tryd.underlying102 rfl rfl ty_size4) ?_
                    refine l_q rfl (q_loadL rfl ty_agg4 tk ga) ?_
                    refine l_nil ?_
                    refine n_code ?_
                    first | refine t_cond_d rfl (fun v4 => ?_) (fun v4 => ?_) | refine t_cond_n rfl (fun v4 => ?_) (fun v4 => ?_) | refine t_cond rfl (fun v4 => ?_) (fun v4 => ?_)
                    · refine t_region ?_
                      refine l_q rfl (q_loadAggL rfl ty_agg36 ty_size36 tk sb) ?_
                      first | refine l_q rfl (q_fieldAddr0 2 rfl Tryd.underlying75 rfl rfl ty_size3) ?_ | refine l_q rfl (q_fieldAddrK 2 rfl Tryd.underlying75 rfl rfl ty_size3) ?_
                      refine l_q rfl (q_loadL rfl ty_agg3 tk ga) ?_
                      apply l_q rfl
                      · apply q_bin rfl rfl (fun w => g_int w); first | exact fun w => b_sub_i w (by omega) | exact fun w => b_sub w
                      apply l_callf rfl rfl rfl (set_ok pa off 5 _ l 40 _ rfl (by decide) w1.1.gh)
                      · exact pk
                      rintro v L' rfl
                      refine l_nm ?_
                      refine l_nil ?_
                      refine n_code ?_
                      refine t_seq ?_
                      refine t_region ?_
                      refine l_q rfl (q_assign rfl) ?_
                      refine l_q rfl (q_assign rfl) ?_
                      refine l_nil ?_
                      refine n_code ?_
                      refine t_ret ?_
                      apply f_ret (.inl rfl) ([G, arenaH pa (((s.put (go + g * gN l) (gN l) (encG l (updC (grpC T.cells g) i (.full (h % 128) key elem birth)))).put (off + 8 * 3) 8 (byteN (IntKind.u64.wrap (T.used + 1)))).put (off + 8 * 5) 8 (byteN (IntKind.u64.wrap (T.left - 1))))])
                      · apply res2 rfl
                        · exact .tmp rfl
                        · exact .tmp rfl
                      · exact ⟨_, rfl, rfl, by rw [v2]; exact w2.1, (hw.2.trans w1.2).trans w2.2⟩
                      · exact en
                    · rw [v2] at v4; cases v4
              · refine l_off rfl rfl rfl rfl ?_
                refine l_off rfl rfl rfl rfl ?_
                refine l_off rfl rfl rfl rfl ?_
                refine l_on rfl rfl ?_
                first | refine l_q rfl (q_pick_t rfl rfl) ?_ | refine l_q rfl (q_pick_f rfl rfl) ?_
                first | refine l_q rfl (q_pick_t rfl rfl) ?_ | refine l_q rfl (q_pick_f rfl rfl) ?_
                refine l_q rfl (q_assign rfl) ?_
                refine l_nil ?_
                refine n_code ?_
                refine t_cond_f rfl ?_
                refine t_skip ?_
                refine n_blk ?_
                refine n_code ?_
                refine t_seq ?_
                refine t_seq ?_
                refine t_draw mixed ?_
                refine d_q 0 gO rfl rfl rfl rfl (yq (q_loadAggL rfl ty_agg36 ty_size36 tk sb)) ?_
                refine d_q 1 gO rfl rfl rfl rfl (yq (q_loadAggL rfl ty_agg75 ty_size75 tk sb)) ?_
                apply d_q 2 gO rfl rfl rfl rfl
                · apply yq
                  first | exact q_fieldAddr0 1 rfl Tryd.underlying102 rfl rfl ty_size3 | exact q_fieldAddrK 1 rfl Tryd.underlying102 rfl rfl ty_size3
                refine d_q 3 gO rfl rfl rfl rfl (yq (q_loadL rfl ty_agg3 tk ga)) ?_
                apply d_q 4 gO rfl rfl rfl rfl
                · apply yq
                  apply q_bin rfl rfl (fun w => g_int w); first | exact fun w => b_quo_i w (by omega) | exact fun w => b_quo w (by omega)
                apply d_q 6 gO rfl rfl rfl rfl
                · apply yq
                  first | exact q_fieldAddr0 1 rfl Tryd.underlying102 rfl rfl ty_size3 | exact q_fieldAddrK 1 rfl Tryd.underlying102 rfl rfl ty_size3
                refine d_q 7 gO rfl rfl rfl rfl (yq (q_loadL rfl ty_agg3 tk ga)) ?_
                apply d_q 8 gO rfl rfl rfl rfl
                · apply yq
                  apply q_bin rfl rfl (fun w => g_int w); first | exact fun w => b_rem_i w (by omega) | exact fun w => b_rem w (by omega)
                refine d_q 9 gO rfl rfl rfl rfl (yq (q_move rfl)) ?_
                refine d_q 11 gO rfl rfl rfl rfl (yq (q_move rfl)) ?_
                refine d_q 12 gO rfl rfl rfl rfl (yq (q_move rfl)) ?_
                refine d_q 13 gO rfl rfl rfl rfl (yq (q_move rfl)) ?_
                apply d_eff1 [0, 1, 4, 3, 2] [13, 12, 11, 9, 8, 7, 6] 5 [(66, _), (67, _), (70, _)]
                · exact gO
                · exact ⟨rfl, rfl, rfl, trivial⟩
                · kernel_rfl
                · kernel_rfl
                intro Ex
                have w1 := hw.1.word (T' := { T with used := T.used + 1, cells := updC T.cells (8 * g + i) (.full (h % 128) key elem birth) }) (k := 3) (v := T.used + 1) (by decide) (by omega) rfl (head_ne (.inr rfl) (.inr rfl) (.inr rfl) (.inl rfl) (.inr rfl) (.inr rfl)) rfl
                apply l_callf rfl rfl rfl (groupP_ok pa off go n e s l T hP hok0 hg _ (by omega))
                · exact pk
                rintro v L' ⟨rfl, rfl⟩
                refine l_nm ?_
                refine l_nil ?_
                apply n_d
                · refine ⟨?_, ?_, ?_, ?_, ?_, ?_, ?_, trivial⟩
                  · exact yat gO rfl rfl rfl (yq (q_move rfl))
                  · exact yat gO rfl rfl rfl (yq (q_move rfl))
                  · exact yat gO rfl rfl rfl (yq (q_move rfl))
                  · exact yat gO rfl rfl rfl (yq (q_move rfl))
                  · refine yat gO rfl rfl rfl ?_
                    apply yq
                    apply q_bin rfl rfl (fun w => g_int w); first | exact fun w => b_rem_i w (by omega) | exact fun w => b_rem w (by omega)
                  · exact yat gO rfl rfl rfl (yq (q_loadL rfl ty_agg3 tk ga))
                  · refine yat gO rfl rfl rfl ?_
                    apply yq
                    first | exact q_fieldAddr0 1 rfl Tryd.underlying102 rfl rfl ty_size3 | exact q_fieldAddrK 1 rfl Tryd.underlying102 rfl rfl ty_size3
                apply d_eff1 [9] [13, 12, 11, 8, 7, 6] 10 [(75, _)]
                · exact gO
                · exact ⟨rfl, trivial⟩
                · kernel_rfl
                · kernel_rfl
                intro Ex
                apply l_callf rfl rfl rfl (Tag_okN h hh t htt)
                · exact pk
                rintro v L' ⟨rfl, rfl⟩
                refine l_nm ?_
                refine l_nil ?_
                apply n_d
                · refine ⟨?_, ?_, ?_, ?_, ?_, ?_, trivial⟩
                  · exact yat gO rfl rfl rfl (yq (q_move rfl))
                  · exact yat gO rfl rfl rfl (yq (q_move rfl))
                  · exact yat gO rfl rfl rfl (yq (q_move rfl))
                  · refine yat gO rfl rfl rfl ?_
                    apply yq
                    apply q_bin rfl rfl (fun w => g_int w); first | exact fun w => b_rem_i w (by omega) | exact fun w => b_rem w (by omega)
                  · exact yat gO rfl rfl rfl (yq (q_loadL rfl ty_agg3 tk ga))
                  · refine yat gO rfl rfl rfl ?_
                    apply yq
                    first | exact q_fieldAddr0 1 rfl Tryd.underlying102 rfl rfl ty_size3 | exact q_fieldAddrK 1 rfl Tryd.underlying102 rfl rfl ty_size3
                apply d_eff1 [8, 11, 12, 13, 7, 6] [] 14 [(71, _), (74, _), (76, _), (77, _), (78, _), (79, _)]
                · exact gO
                · exact ⟨rfl, rfl, rfl, rfl, rfl, rfl, trivial⟩
                · kernel_rfl
                · kernel_rfl
                intro Ex
                rw [show ((8 * g + i : Nat) : Int) % 8 = ((i : Nat) : Int) by omega]
                apply l_callf rfl rfl rfl (Fill_ok pa (go + g * gN l) s l (grpC T.cells g) hP.hl hgood hG' hok' i t key elem birth hi ht128 hk he hb)
                · exact pk
                rintro v L' ⟨rfl, rfl⟩
                refine l_nm ?_
                rw [← htt]
                refine l_nil ?_
                apply n_d
                · exact trivial
                apply d_eff1 [] [] 15 [(80, _)]
                · exact gO
                · exact ⟨rfl, trivial⟩
                · kernel_rfl
                · kernel_rfl
                intro Ex
                refine l_q rfl (q_assign rfl) ?_
                refine l_nil ?_
                apply n_d
                · exact trivial
                refine d_end (by kernel_rfl) ?_
                refine n_code ?_
                refine t_seq ?_
                refine t_region ?_
                refine l_q rfl (q_move rfl) ?_
                apply l_q rfl
                · apply q_bin rfl rfl (fun w => g_int w); exact fun w => b_neq w
                refine l_nil ?_
                refine n_code ?_
                first | refine t_cond_d rfl (fun v5 => ?_) (fun v5 => ?_) | refine t_cond_n rfl (fun v5 => ?_) (fun v5 => ?_) | refine t_cond rfl (fun v5 => ?_) (fun v5 => ?_)
                · exact absurd rfl v5
                · refine t_skip ?_
                  refine n_code ?_
                  refine t_seq ?_
                  refine t_region ?_
                  refine l_q rfl (q_loadAggL rfl ty_agg36 ty_size36 tk sb) ?_
                  first | refine l_q rfl (q_fieldAddr0 0 rfl Tryd.underlying75 rfl rfl ty_size3) ?_ | refine l_q rfl (q_fieldAddrK 0 rfl Tryd.underlying75 rfl rfl ty_size3) ?_
                  refine l_q rfl (q_loadL rfl ty_agg3 tk ga) ?_
                  apply l_q rfl
                  · apply q_bin rfl rfl (fun w => g_int w); first | exact fun w => b_add_i w (by omega) | exact fun w => b_add w
                  apply l_callf rfl rfl rfl (set_ok pa off 3 _ l 24 _ rfl (by decide) hw.1.gh)
                  · exact pk
                  rintro v L' rfl
                  refine l_nm ?_
                  refine l_nil ?_
                  refine n_code ?_
                  refine t_seq ?_
                  refine t_seq ?_
                  refine t_region ?_
                  first | refine l_q rfl (q_fieldAddr0 2 rfl Tryd.underlying102 rfl rfl ty_size4) ?_ | refine l_q rfl (q_fieldAddrK 2 rfl Tryd.underlying102 rfl rfl ty_size4) ?_
                  refine l_q rfl (q_loadL rfl ty_agg4 tk ga) ?_
                  refine l_nil ?_
                  refine n_code ?_
                  first | refine t_cond_d rfl (fun v4 => ?_) (fun v4 => ?_) | refine t_cond_n rfl (fun v4 => ?_) (fun v4 => ?_) | refine t_cond rfl (fun v4 => ?_) (fun v4 => ?_)
                  · rw [v2] at v4; cases v4
                  · refine t_skip ?_
                    refine n_code ?_
                    refine t_seq ?_
                    refine t_region ?_
                    refine l_q rfl (q_assign rfl) ?_
                    refine l_q rfl (q_assign rfl) ?_
                    refine l_nil ?_
                    refine n_code ?_
                    refine t_ret ?_
                    apply f_ret (.inl rfl) ([G, arenaH pa ((s.put (go + g * gN l) (gN l) (encG l (updC (grpC T.cells g) i (.full (h % 128) key elem birth)))).put (off + 8 * 3) 8 (byteN (IntKind.u64.wrap (T.used + 1))))])
                    · apply res2 rfl
                      · exact .tmp rfl
                      · exact .tmp rfl
                    · exact ⟨_, rfl, rfl, by rw [v2]; exact w1.1, hw.2.trans w1.2⟩
                    · exact en
end
end Go.Proofs.YthdmlgnhmbobaaaDoor.Table
