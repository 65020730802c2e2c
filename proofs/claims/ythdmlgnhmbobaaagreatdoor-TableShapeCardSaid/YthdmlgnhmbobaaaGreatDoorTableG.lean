/- Contracts of package table: Get, Delete. -/
import Derived.Test.YthdmlgnhmbobaaaGreatDoorTableW
set_option linter.unusedVariables false
set_option linter.unusedSimpArgs false
set_option maxRecDepth 100000
namespace Go.Proofs.YthdmlgnhmbobaaaGreatDoor.Table
open Go.RowKit Go.Proofs Go.Proofs.YthdmlgnhmbobaaaGreatDoor.Eng Go.Proofs.YthdmlgnhmbobaaaGreatDoor.Ty Go.Proofs.YthdmlgnhmbobaaaGreatDoor.Bits Go.Proofs.YthdmlgnhmbobaaaGreatDoor.Mem Go.Proofs.YthdmlgnhmbobaaaGreatDoor.Search Go.Proofs.YthdmlgnhmbobaaaGreatDoor.Arena Go.Proofs.YthdmlgnhmbobaaaGreatDoor.CtrlB Go.Proofs.YthdmlgnhmbobaaaGreatDoor.Ctrl Go.Proofs.YthdmlgnhmbobaaaGreatDoor.Layout Go.Proofs.YthdmlgnhmbobaaaGreatDoor.GroupB Go.Proofs.YthdmlgnhmbobaaaGreatDoor.Group Go.Proofs.YthdmlgnhmbobaaaGreatDoor.Probe Go.Proofs.YthdmlgnhmbobaaaGreatDoor.TableB Go.Proofs.YthdmlgnhmbobaaaGreatDoor.TableI

/-- The bits of a word, added up side by side. -/
def onesI (x : Int) : Int :=
  let a := IntKind.u64.wrap (bits .and .u64 (x.fdiv (2 ^ min (Int.toNat 1) IntKind.u64.bits)) 6148914691236517205 + bits .and .u64 x 6148914691236517205)
  let b := IntKind.u64.wrap (bits .and .u64 (a.fdiv (2 ^ min (Int.toNat 2) IntKind.u64.bits)) 3689348814741910323 + bits .and .u64 a 3689348814741910323)
  let c := bits .and .u64 (IntKind.u64.wrap (b.fdiv (2 ^ min (Int.toNat 4) IntKind.u64.bits) + b)) 1085102592571150095
  let d := IntKind.u64.wrap (c + c.fdiv (2 ^ min (Int.toNat 8) IntKind.u64.bits))
  let e := IntKind.u64.wrap (d + d.fdiv (2 ^ min (Int.toNat 16) IntKind.u64.bits))
  IntKind.u64.wrap (e + e.fdiv (2 ^ min (Int.toNat 32) IntKind.u64.bits))
theorem Ones_ok (s : Nat → Bool) : FnOk Tryz.prog 87 #[.int .u64 (selW s)] [] (fun v L => v = .int .i64 ((slotsF s).length : Nat) ∧ L = []) := by
  have ho : ∀ a b c d e f g h : Bool, bits .and .i64 (IntKind.i64.wrap (onesI (selW (sof a b c d e f g h)))) 127 = (((slotsF (sof a b c d e f g h)).length : Nat) : Int) := by decide +kernel
  refine fn_intro en87 Tryz.func87 rfl rfl rfl ?_
  intro Fr w0
  refine t_nm ?_
  refine t_seq ?_
  refine t_region ?_
  refine l_q rfl (q_assign rfl) ?_
  refine l_nil ?_
  refine n_code ?_
  refine t_seq ?_
  refine t_region ?_
  refine l_q rfl (q_move rfl) ?_
  apply l_q rfl
  · apply q_bin rfl rfl (fun w => g_int w); first | exact fun w => b_shr_c (m := 2) w (by decide) (by decide) (by omega) | exact fun w => b_shr w (by decide)
  apply l_q rfl
  · apply q_bin rfl rfl (fun w => g_int w); exact fun w => b_bits w rfl
  refine l_q rfl (q_move rfl) ?_
  apply l_q rfl
  · apply q_bin rfl rfl (fun w => g_int w); exact fun w => b_bits w rfl
  apply l_q rfl
  · apply q_bin rfl rfl (fun w => g_int w); first | exact fun w => b_add_u w (by omega) | exact fun w => b_add w
  refine l_q rfl (q_assign rfl) ?_
  refine l_nil ?_
  refine n_code ?_
  refine t_seq ?_
  refine t_region ?_
  refine l_q rfl (q_move rfl) ?_
  apply l_q rfl
  · apply q_bin rfl rfl (fun w => g_int w); first | exact fun w => b_shr_c (m := 4) w (by decide) (by decide) (by omega) | exact fun w => b_shr w (by decide)
  apply l_q rfl
  · apply q_bin rfl rfl (fun w => g_int w); exact fun w => b_bits w rfl
  refine l_q rfl (q_move rfl) ?_
  apply l_q rfl
  · apply q_bin rfl rfl (fun w => g_int w); exact fun w => b_bits w rfl
  apply l_q rfl
  · apply q_bin rfl rfl (fun w => g_int w); first | exact fun w => b_add_u w (by omega) | exact fun w => b_add w
  refine l_q rfl (q_assign rfl) ?_
  refine l_nil ?_
  refine n_code ?_
  refine t_seq ?_
  refine t_region ?_
  refine l_q rfl (q_move rfl) ?_
  apply l_q rfl
  · apply q_bin rfl rfl (fun w => g_int w); first | exact fun w => b_shr_c (m := 16) w (by decide) (by decide) (by omega) | exact fun w => b_shr w (by decide)
  refine l_q rfl (q_move rfl) ?_
  apply l_q rfl
  · apply q_bin rfl rfl (fun w => g_int w); first | exact fun w => b_add_u w (by omega) | exact fun w => b_add w
  apply l_q rfl
  · apply q_bin rfl rfl (fun w => g_int w); exact fun w => b_bits w rfl
  refine l_q rfl (q_assign rfl) ?_
  refine l_nil ?_
  refine n_code ?_
  refine t_seq ?_
  refine t_region ?_
  refine l_q rfl (q_move rfl) ?_
  refine l_q rfl (q_move rfl) ?_
  apply l_q rfl
  · apply q_bin rfl rfl (fun w => g_int w); first | exact fun w => b_shr_c (m := 256) w (by decide) (by decide) (by omega) | exact fun w => b_shr w (by decide)
  apply l_q rfl
  · apply q_bin rfl rfl (fun w => g_int w); first | exact fun w => b_add_u w (by omega) | exact fun w => b_add w
  refine l_q rfl (q_assign rfl) ?_
  refine l_nil ?_
  refine n_code ?_
  refine t_seq ?_
  refine t_region ?_
  refine l_q rfl (q_move rfl) ?_
  refine l_q rfl (q_move rfl) ?_
  apply l_q rfl
  · apply q_bin rfl rfl (fun w => g_int w); first | exact fun w => b_shr_c (m := 65536) w (by decide) (by decide) (by omega) | exact fun w => b_shr w (by decide)
  apply l_q rfl
  · apply q_bin rfl rfl (fun w => g_int w); first | exact fun w => b_add_u w (by omega) | exact fun w => b_add w
  refine l_q rfl (q_assign rfl) ?_
  refine l_nil ?_
  refine n_code ?_
  refine t_seq ?_
  refine t_region ?_
  refine l_q rfl (q_move rfl) ?_
  refine l_q rfl (q_move rfl) ?_
  apply l_q rfl
  · apply q_bin rfl rfl (fun w => g_int w); first | exact fun w => b_shr_c (m := 4294967296) w (by decide) (by decide) (by omega) | exact fun w => b_shr w (by decide)
  apply l_q rfl
  · apply q_bin rfl rfl (fun w => g_int w); first | exact fun w => b_add_u w (by omega) | exact fun w => b_add w
  refine l_q rfl (q_assign rfl) ?_
  refine l_nil ?_
  refine n_code ?_
  refine t_seq ?_
  refine t_region ?_
  refine l_q rfl (q_move rfl) ?_
  apply l_q rfl
  · apply q_conv rfl; first | exact fun w => c_int_i w Tryz.underlying24 Tryz.underlying3 (by omega) | exact fun w => c_int w Tryz.underlying24 Tryz.underlying3
  apply l_q rfl
  · apply q_bin rfl rfl (fun w => g_int w); exact fun w => b_bits w rfl
  refine l_q rfl (q_assign rfl) ?_
  refine l_nil ?_
  refine n_code ?_
  refine t_ret ?_
  apply f_ret (.inl rfl) ([])
  · apply res1 rfl
    · exact .tmp rfl
  · refine ⟨?_, rfl⟩; congr 1; rw [selW_sof, slotsF_sof]; exact ho _ _ _ _ _ _ _ _
  · exact en
theorem Count_ok (s : Nat → Bool) : FnOk Tryz.prog 52 #[bitsV s] [] (fun v L => v = .int .i64 ((slotsF s).length : Nat) ∧ L = []) := by
  refine fn_intro en52 Tryz.func52 rfl rfl rfl ?_
  intro Fr w0
  refine t_nm ?_
  refine t_seq ?_
  refine t_region ?_
  refine o_boxA rfl rfl (fun b1 => ?_)
  refine l_q rfl (q_assign rfl) ?_
  refine l_nil ?_
  refine n_code ?_
  refine t_seq ?_
  refine t_region ?_
  first | refine l_q rfl (q_fieldAddr0 0 rfl Tryz.underlying126 rfl rfl ty_size24) ?_ | refine l_q rfl (q_fieldAddrK 0 rfl Tryz.underlying126 rfl rfl ty_size24) ?_
  refine l_q rfl (q_loadL rfl ty_agg24 tk ga) ?_
  apply l_callf rfl rfl rfl (Ones_ok s)
  · exact pk
  rintro v L' ⟨rfl, rfl⟩
  refine l_nm ?_
  refine l_q rfl (q_assign rfl) ?_
  refine l_nil ?_
  refine n_code ?_
  refine t_ret ?_
  apply f_ret (.inl rfl) ([])
  · apply res1 rfl
    · exact .tmp rfl
  · exact ⟨rfl, rfl⟩
  · exact en
section
variable (G : HP) (hG : TabOk G) (pa off go n e : Nat) (s : ArS) (l : Lay) (T : Tb) (hP : TabP s off go l n e T)
include hP hG
/-- What Get gives. -/
def getC (n : Nat) (T : Tb) (h : Int) (key : ByteArray) : Cell := if 0 ≤ (searchR (h / 128) n T.cells (h % 128) key).slot then T.cells (searchR (h / 128) n T.cells (h % 128) key).slot.toNat else .empty
theorem TGet_ok (h : Int) (hh : 0 ≤ h ∧ h < 18446744073709551616) (key : ByteArray) (hk : key.size = kN l) :
    FnOk Tryz.prog 45 #[.agg #[.pointer (some ⟨pa, 0, none⟩), .int .i64 l.key, .int .i64 l.elem, .int .i64 l.ka, .int .i64 l.ea, .int .i64 l.cap, .int .i64 l.eo, .int .i64 l.bo, .int .i64 l.slot, .int .i64 l.group, .int .i64 (off : Nat)], .int .u64 h, .string key] [G, arenaH pa s]
      (fun v L => v = .tuple #[.agg #[.int .i64 (getC n T h key).kind, .int .i64 (getC n T h key).tagI, .string (getC n T h key).keyS, .string (getC n T h key).elemS, .int .i64 (getC n T h key).birthI], .int .i64 0] ∧ L = [G, arenaH pa s]) := by
  have hn8 := hP.n0
  refine fn_intro en45 Tryz.func45 rfl rfl rfl ?_
  intro Fr w0
  refine t_nm ?_
  refine t_pure (φ := s.ok) (fun w hw => arena_ok hw (.there .here)) fun hok0 => ?_
  refine t_seq ?_
  refine t_region ?_
  refine o_boxA rfl rfl (fun b3 => ?_)
  refine o_allocA rfl ty_zero41 (fun b6 => ?_)
  refine l_q rfl (q_assign rfl) ?_
  refine l_nil ?_
  refine n_code ?_
  refine t_seq ?_
  refine t_region ?_
  refine l_q rfl (q_loadAggL rfl ty_agg68 ty_size68 tk sb) ?_
  refine l_q rfl (q_move rfl) ?_
  refine l_q rfl (q_move rfl) ?_
  apply l_callf rfl rfl rfl (searchP_ok G hG pa off go n e s l T hP h hh key hk)
  · exact pk
  rintro v L' ⟨rfl, rfl⟩
  refine l_nm ?_
  refine l_q rfl (q_move rfl) ?_
  refine l_q rfl (q_extractL rfl ga) ?_
  refine l_q rfl (q_extractL rfl ga) ?_
  refine l_q rfl (q_extractL rfl ga) ?_
  refine o_allocA rfl ty_zero75 (fun b8 => ?_)
  refine o_allocA rfl ty_zero118 (fun b9 => ?_)
  apply o_storeAggL rfl rfl rfl ty_size75 rfl rfl (by simp)
  · exact tk
  · exact sal
  apply o_storeAggL rfl rfl rfl ty_size118 rfl rfl (by simp)
  · exact tk
  · exact sal
  refine l_q rfl (q_assign rfl) ?_
  refine l_nil ?_
  refine n_code ?_
  refine t_seq ?_
  refine t_seq ?_
  refine t_region ?_
  refine l_q rfl (q_move rfl) ?_
  apply l_q rfl
  · apply q_bin rfl rfl (fun w => g_int w); exact fun w => b_neq w
  refine l_q rfl (q_move rfl) ?_
  rcases (show (searchR (h / 128) n T.cells (h % 128) key).slot < 0 ∨ 0 ≤ (searchR (h / 128) n T.cells (h % 128) key).slot by omega) with hneg | hpos
  · first | refine l_part_d (t := 21) rfl (fun p1 => ?_) (fun p1 => ?_) | refine l_part_n (t := 21) rfl (fun p1 => ?_) (fun p1 => ?_) | refine l_part (t := 21) rfl (fun p1 => ?_) (fun p1 => ?_)
    · exact absurd rfl p1
    · refine l_on rfl rfl ?_
      first | refine l_q rfl (q_fieldAddr0 0 rfl Tryz.underlying118 rfl rfl ty_size3) ?_ | refine l_q rfl (q_fieldAddrK 0 rfl Tryz.underlying118 rfl rfl ty_size3) ?_
      refine l_on rfl rfl ?_
      refine l_q rfl (q_loadL rfl ty_agg3 tk ga) ?_
      refine l_on rfl rfl ?_
      apply l_q rfl
      · apply q_bin rfl rfl (fun w => g_int w); exact fun w => b_lss w
      first | refine l_q rfl (q_pick_t rfl rfl) ?_ | refine l_q rfl (q_pick_f rfl rfl) ?_
      refine l_nil ?_
      refine n_code ?_
      first | refine t_cond_d rfl (fun p2 => ?_) (fun p2 => ?_) | refine t_cond_n rfl (fun p2 => ?_) (fun p2 => ?_) | refine t_cond rfl (fun p2 => ?_) (fun p2 => ?_)
      · refine t_seq ?_
        refine t_region ?_
        apply l_q rfl
        · apply q_buildS rfl ty_pl41 ty_zero41
          · exact FillR.nil
        refine l_q rfl (q_move rfl) ?_
        apply o_storeAggL rfl rfl rfl ty_size41 rfl rfl (by simp)
        · exact tk
        · exact sal
        refine l_q rfl (q_assign rfl) ?_
        refine l_nil ?_
        refine n_code ?_
        refine t_ret ?_
        refine r_code ?_
        apply f_ret (.inl rfl) ([G, arenaH pa s])
        · apply res2 rfl
          · apply Rv.agg rfl
            · exact tk
            · exact run_loadAll ty_agg41 ty_size41 rfl
          · exact .tmp rfl
        · refine ⟨?_, rfl⟩; unfold getC; rw [if_neg (by omega)]; rfl
        · exact en
      · omega
  · obtain ⟨g, i, hg, hi, h2, e0, b0, h3⟩ := search_slot (home := h / 128) (cells := T.cells) (tag := h % 128) (key := key) hn8.1 hpos
    obtain ⟨hgood, hG', hok', hin⟩ := hP.grpAt hg
    rw [h2]
    first | refine l_part_d (t := 21) rfl (fun p1 => ?_) (fun p1 => ?_) | refine l_part_n (t := 21) rfl (fun p1 => ?_) (fun p1 => ?_) | refine l_part (t := 21) rfl (fun p1 => ?_) (fun p1 => ?_)
    · exact absurd rfl p1
    · refine l_on rfl rfl ?_
      first | refine l_q rfl (q_fieldAddr0 0 rfl Tryz.underlying118 rfl rfl ty_size3) ?_ | refine l_q rfl (q_fieldAddrK 0 rfl Tryz.underlying118 rfl rfl ty_size3) ?_
      refine l_on rfl rfl ?_
      refine l_q rfl (q_loadL rfl ty_agg3 tk ga) ?_
      refine l_on rfl rfl ?_
      apply l_q rfl
      · apply q_bin rfl rfl (fun w => g_int w); exact fun w => b_lss w
      first | refine l_q rfl (q_pick_t rfl rfl) ?_ | refine l_q rfl (q_pick_f rfl rfl) ?_
      refine l_nil ?_
      refine n_code ?_
      first | refine t_cond_d rfl (fun p2 => ?_) (fun p2 => ?_) | refine t_cond_n rfl (fun p2 => ?_) (fun p2 => ?_) | refine t_cond rfl (fun p2 => ?_) (fun p2 => ?_)
      · omega
      · refine t_skip ?_
        refine n_code ?_
        refine t_seq ?_
        refine t_draw mixed ?_
        refine d_q 0 gO rfl rfl rfl rfl (yq (q_loadAggL rfl ty_agg68 ty_size68 tk sb)) ?_
        refine d_q 1 gO rfl rfl rfl rfl (yq (q_loadAggL rfl ty_agg75 ty_size75 tk sb)) ?_
        apply d_q 2 gO rfl rfl rfl rfl
        · apply yq
          first | exact q_fieldAddr0 0 rfl Tryz.underlying118 rfl rfl ty_size3 | exact q_fieldAddrK 0 rfl Tryz.underlying118 rfl rfl ty_size3
        refine d_q 3 gO rfl rfl rfl rfl (yq (q_loadL rfl ty_agg3 tk ga)) ?_
        apply d_q 4 gO rfl rfl rfl rfl
        · apply yq
          apply q_bin rfl rfl (fun w => g_int w); first | exact fun w => b_quo_i w (by omega) | exact fun w => b_quo w (by omega)
        apply d_q 6 gO rfl rfl rfl rfl
        · apply yq
          first | exact q_fieldAddr0 0 rfl Tryz.underlying118 rfl rfl ty_size3 | exact q_fieldAddrK 0 rfl Tryz.underlying118 rfl rfl ty_size3
        refine d_q 7 gO rfl rfl rfl rfl (yq (q_loadL rfl ty_agg3 tk ga)) ?_
        apply d_q 8 gO rfl rfl rfl rfl
        · apply yq
          apply q_bin rfl rfl (fun w => g_int w); first | exact fun w => b_rem_i w (by omega) | exact fun w => b_rem w (by omega)
        apply d_eff1 [0, 1, 4, 3, 2] [8, 7, 6] 5 [(28, _), (29, _), (32, _)]
        · exact gO
        · exact ⟨rfl, rfl, rfl, trivial⟩
        · kernel_rfl
        · kernel_rfl
        intro Ex
        apply l_callf rfl rfl rfl (groupP_ok pa off go n e s l T hP hok0 (g := g) hg _ (by omega))
        · exact pk
        rintro v L' ⟨rfl, rfl⟩
        refine l_nm ?_
        refine l_nil ?_
        apply n_d
        · refine ⟨?_, ?_, ?_, trivial⟩
          · refine yat gO rfl rfl rfl ?_
            apply yq
            apply q_bin rfl rfl (fun w => g_int w); first | exact fun w => b_rem_i w (by omega) | exact fun w => b_rem w (by omega)
          · exact yat gO rfl rfl rfl (yq (q_loadL rfl ty_agg3 tk ga))
          · refine yat gO rfl rfl rfl ?_
            apply yq
            first | exact q_fieldAddr0 0 rfl Tryz.underlying118 rfl rfl ty_size3 | exact q_fieldAddrK 0 rfl Tryz.underlying118 rfl rfl ty_size3
        apply d_eff1 [8, 7, 6] [] 9 [(33, _), (36, _)]
        · exact gO
        · exact ⟨rfl, rfl, trivial⟩
        · kernel_rfl
        · kernel_rfl
        intro Ex
        rw [show ((8 * g + i : Nat) : Int) % 8 = ((i : Nat) : Int) by omega]
        apply l_callf rfl rfl rfl (Cell_ok pa (go + g * gN l) s l (grpC T.cells g) hP.hl hgood hG' hok' i hi)
        · exact pk
        rintro v L' ⟨rfl, rfl⟩
        refine l_nm ?_
        refine l_nil ?_
        apply n_d
        · exact trivial
        refine d_q 10 gO rfl rfl rfl rfl (yq (q_extractL rfl ga)) ?_
        refine d_q 11 gO rfl rfl rfl rfl (yq (q_extractL rfl ga)) ?_
        apply d_eff1 [10, 11] [] 12 [(6, _), (38, _)]
        · exact gO
        · exact ⟨rfl, rfl, trivial⟩
        · kernel_rfl
        · kernel_rfl
        intro Ex
        apply o_storeAggL rfl rfl rfl ty_size41 rfl rfl (by simp)
        · exact tk
        · exact sal
        refine l_nil ?_
        apply n_d
        · exact trivial
        apply d_eff1 [] [] 13 [(39, _)]
        · exact gO
        · exact ⟨rfl, trivial⟩
        · kernel_rfl
        · kernel_rfl
        intro Ex
        refine l_q rfl (q_assign rfl) ?_
        refine l_nil ?_
        apply n_d
        · exact trivial
        refine d_end (by kernel_rfl) ?_
        refine n_code ?_
        refine t_ret ?_
        apply f_ret (.inl rfl) ([G, arenaH pa s])
        · apply res2 rfl
          · apply Rv.agg rfl
            · exact tk
            · exact run_loadAll ty_agg41 ty_size41 rfl
          · exact .tmp rfl
        · refine ⟨?_, rfl⟩; have : getC n T h key = grpC T.cells g i := (by unfold getC; rw [h2, if_pos (by omega), Int.toNat_natCast]; rfl); rw [this]
        · exact en
theorem Delete_ok (h : Int) (hh : 0 ≤ h ∧ h < 18446744073709551616) (key : ByteArray) (hk : key.size = kN l) (hu : 0 ≤ T.used ∧ T.used ≤ 1099511627776) (hlf : 0 ≤ T.left ∧ T.left ≤ 1099511627776) :
    FnOk Tryz.prog 19 #[.agg #[.pointer (some ⟨pa, 0, none⟩), .int .i64 l.key, .int .i64 l.elem, .int .i64 l.ka, .int .i64 l.ea, .int .i64 l.cap, .int .i64 l.eo, .int .i64 l.bo, .int .i64 l.slot, .int .i64 l.group, .int .i64 (off : Nat)], .int .u64 h, .string key] [G, arenaH pa s]
      (fun v L => ∃ s', v = .tuple #[.bool (delT n T h key).1, .int .i64 0] ∧ L = [G, arenaH pa s'] ∧ TabP s' off go l n e (delT n T h key).2 ∧ SameBut s s' off go (n * gN l)) := by
  have hn8 := hP.n0
  refine fn_intro en19 Tryz.func19 rfl rfl rfl ?_
  intro Fr w0
  refine t_nm ?_
  refine t_pure (φ := s.ok) (fun w hw => arena_ok hw (.there .here)) fun hok0 => ?_
  refine t_seq ?_
  refine t_region ?_
  refine o_boxA rfl rfl (fun b3 => ?_)
  refine l_q rfl (q_assign rfl) ?_
  refine l_q rfl (q_assign rfl) ?_
  refine l_nil ?_
  refine n_code ?_
  refine t_seq ?_
  refine t_region ?_
  refine l_q rfl (q_loadAggL rfl ty_agg68 ty_size68 tk sb) ?_
  refine l_q rfl (q_move rfl) ?_
  refine l_q rfl (q_move rfl) ?_
  apply l_callf rfl rfl rfl (searchP_ok G hG pa off go n e s l T hP h hh key hk)
  · exact pk
  rintro v L' ⟨rfl, rfl⟩
  refine l_nm ?_
  refine l_q rfl (q_move rfl) ?_
  refine l_q rfl (q_extractL rfl ga) ?_
  refine l_q rfl (q_extractL rfl ga) ?_
  refine l_q rfl (q_extractL rfl ga) ?_
  refine o_allocA rfl ty_zero75 (fun b8 => ?_)
  refine o_allocA rfl ty_zero118 (fun b9 => ?_)
  apply o_storeAggL rfl rfl rfl ty_size75 rfl rfl (by simp)
  · exact tk
  · exact sal
  apply o_storeAggL rfl rfl rfl ty_size118 rfl rfl (by simp)
  · exact tk
  · exact sal
  refine l_q rfl (q_assign rfl) ?_
  refine l_nil ?_
  refine n_code ?_
  refine t_seq ?_
  refine t_seq ?_
  refine t_region ?_
  refine l_q rfl (q_move rfl) ?_
  apply l_q rfl
  · apply q_bin rfl rfl (fun w => g_int w); exact fun w => b_neq w
  refine l_q rfl (q_move rfl) ?_
  rcases (show (searchR (h / 128) n T.cells (h % 128) key).slot < 0 ∨ 0 ≤ (searchR (h / 128) n T.cells (h % 128) key).slot by omega) with hneg | hpos
  · first | refine l_part_d (t := 25) rfl (fun p1 => ?_) (fun p1 => ?_) | refine l_part_n (t := 25) rfl (fun p1 => ?_) (fun p1 => ?_) | refine l_part (t := 25) rfl (fun p1 => ?_) (fun p1 => ?_)
    · exact absurd rfl p1
    · refine l_on rfl rfl ?_
      first | refine l_q rfl (q_fieldAddr0 0 rfl Tryz.underlying118 rfl rfl ty_size3) ?_ | refine l_q rfl (q_fieldAddrK 0 rfl Tryz.underlying118 rfl rfl ty_size3) ?_
      refine l_on rfl rfl ?_
      refine l_q rfl (q_loadL rfl ty_agg3 tk ga) ?_
      refine l_on rfl rfl ?_
      apply l_q rfl
      · apply q_bin rfl rfl (fun w => g_int w); exact fun w => b_lss w
      first | refine l_q rfl (q_pick_t rfl rfl) ?_ | refine l_q rfl (q_pick_f rfl rfl) ?_
      refine l_nil ?_
      refine n_code ?_
      first | refine t_cond_d rfl (fun p2 => ?_) (fun p2 => ?_) | refine t_cond_n rfl (fun p2 => ?_) (fun p2 => ?_) | refine t_cond rfl (fun p2 => ?_) (fun p2 => ?_)
      · refine t_seq ?_
        refine t_region ?_
        refine l_q rfl (q_move rfl) ?_
        refine l_q rfl (q_assign rfl) ?_
        refine l_q rfl (q_assign rfl) ?_
        refine l_nil ?_
        refine n_code ?_
        refine t_ret ?_
        refine r_code ?_
        apply f_ret (.inl rfl) ([G, arenaH pa s])
        · apply res2 rfl
          · exact .tmp rfl
          · exact .tmp rfl
        · have hd : delT n T h key = (false, T) := (by unfold delT; rw [if_neg (by omega)]); rw [hd]; exact ⟨s, rfl, rfl, hP, SameBut.refl _ _ _ _⟩
        · exact en
      · omega
  · obtain ⟨g, i, hg, hi, h2, e0, b0, h3⟩ := search_slot (home := h / 128) (cells := T.cells) (tag := h % 128) (key := key) hn8.1 hpos
    obtain ⟨hgood, hG', hok', hin⟩ := hP.grpAt hg
    rw [h2]
    first | refine l_part_d (t := 25) rfl (fun p1 => ?_) (fun p1 => ?_) | refine l_part_n (t := 25) rfl (fun p1 => ?_) (fun p1 => ?_) | refine l_part (t := 25) rfl (fun p1 => ?_) (fun p1 => ?_)
    · exact absurd rfl p1
    · refine l_on rfl rfl ?_
      first | refine l_q rfl (q_fieldAddr0 0 rfl Tryz.underlying118 rfl rfl ty_size3) ?_ | refine l_q rfl (q_fieldAddrK 0 rfl Tryz.underlying118 rfl rfl ty_size3) ?_
      refine l_on rfl rfl ?_
      refine l_q rfl (q_loadL rfl ty_agg3 tk ga) ?_
      refine l_on rfl rfl ?_
      apply l_q rfl
      · apply q_bin rfl rfl (fun w => g_int w); exact fun w => b_lss w
      first | refine l_q rfl (q_pick_t rfl rfl) ?_ | refine l_q rfl (q_pick_f rfl rfl) ?_
      refine l_nil ?_
      refine n_code ?_
      first | refine t_cond_d rfl (fun p2 => ?_) (fun p2 => ?_) | refine t_cond_n rfl (fun p2 => ?_) (fun p2 => ?_) | refine t_cond rfl (fun p2 => ?_) (fun p2 => ?_)
      · omega
      · refine t_skip ?_
        refine n_code ?_
        refine t_seq ?_
        refine t_region ?_
        refine l_q rfl (q_loadAggL rfl ty_agg68 ty_size68 tk sb) ?_
        refine l_q rfl (q_loadAggL rfl ty_agg75 ty_size75 tk sb) ?_
        first | refine l_q rfl (q_fieldAddr0 0 rfl Tryz.underlying118 rfl rfl ty_size3) ?_ | refine l_q rfl (q_fieldAddrK 0 rfl Tryz.underlying118 rfl rfl ty_size3) ?_
        refine l_q rfl (q_loadL rfl ty_agg3 tk ga) ?_
        apply l_q rfl
        · apply q_bin rfl rfl (fun w => g_int w); first | exact fun w => b_quo_i w (by omega) | exact fun w => b_quo w (by omega)
        apply l_callf rfl rfl rfl (groupP_ok pa off go n e s l T hP hok0 (g := g) hg _ (by omega))
        · exact pk
        rintro v L' ⟨rfl, rfl⟩
        refine l_nm ?_
        refine o_allocA rfl ty_zero122 (fun b11 => ?_)
        apply o_storeAggL rfl rfl rfl ty_size122 rfl rfl (by simp)
        · exact tk
        · exact sal
        refine l_nil ?_
        refine n_code ?_
        refine t_seq ?_
        refine t_region ?_
        refine l_q rfl (q_loadAggL rfl ty_agg122 ty_size122 tk sb) ?_
        apply l_callf rfl rfl rfl (Word_ok pa (go + g * gN l) s l (grpC T.cells g) hP.hl hgood hG' hok')
        · exact pk
        rintro v L' ⟨rfl, rfl⟩
        refine l_nm ?_
        refine l_q rfl (q_move rfl) ?_
        refine l_q rfl (q_extractL rfl ga) ?_
        refine l_q rfl (q_extractL rfl ga) ?_
        refine l_q rfl (q_assign rfl) ?_
        refine l_q rfl (q_assign rfl) ?_
        refine l_nil ?_
        refine n_code ?_
        refine t_seq ?_
        refine t_seq ?_
        refine t_region ?_
        refine l_q rfl (q_move rfl) ?_
        apply l_q rfl
        · apply q_bin rfl rfl (fun w => g_int w); exact fun w => b_neq w
        refine l_nil ?_
        refine n_code ?_
        first | refine t_cond_d rfl (fun p3 => ?_) (fun p3 => ?_) | refine t_cond_n rfl (fun p3 => ?_) (fun p3 => ?_) | refine t_cond rfl (fun p3 => ?_) (fun p3 => ?_)
        · exact absurd rfl p3
        · refine t_skip ?_
          refine n_code ?_
          refine t_seq ?_
          refine t_region ?_
          refine l_q rfl (q_move rfl) ?_
          apply l_callf rfl rfl rfl (MatchE_ok hok')
          · exact pk
          rintro v L' ⟨rfl, rfl⟩
          refine l_nm ?_
          have hpb : passedB T.cells (8 * g + i) = decide ((slotsF (empS (grpC T.cells g))).length = 0) := by unfold passedB; rw [show (8 * g + i) / 8 = g by omega]
          have hd : delT n T h key = (true, { T with used := T.used - 1, left := if passedB T.cells (8 * g + i) then T.left else T.left + 1, cells := updC T.cells (8 * g + i) (if passedB T.cells (8 * g + i) then .deleted else .empty) }) := by
            unfold delT; rw [if_pos (by omega), h2, Int.toNat_natCast]
          rw [hd]
          have hcok : (if passedB T.cells (8 * g + i) = true then Cell.deleted else Cell.empty).ok l := by split <;> trivial
          have hw := hP.cell hg hi (c := if passedB T.cells (8 * g + i) then .deleted else .empty) hcok
          have w1 := hw.1.word (T' := { T with used := T.used - 1, cells := updC T.cells (8 * g + i) (if passedB T.cells (8 * g + i) then .deleted else .empty) }) (k := 3) (v := T.used - 1) (by decide) (by omega) rfl (head_ne (.inr rfl) (.inr rfl) (.inr rfl) (.inl rfl) (.inr rfl) (.inr rfl)) rfl
          apply l_callf rfl rfl rfl (Count_ok _)
          · exact pk
          rintro v L' ⟨rfl, rfl⟩
          refine l_nm ?_
          rw [show (slotsF (empS (grpC T.cells g))).length = (if passedB T.cells (8 * g + i) then 0 else (slotsF (empS (grpC T.cells g))).length : Nat) by rw [hpb]; split <;> simp_all]
          apply l_q rfl
          · apply q_bin rfl rfl (fun w => g_int w); exact fun w => b_eql w
          refine l_q rfl (q_assign rfl) ?_
          refine l_nil ?_
          refine n_code ?_
          refine t_seq ?_
          refine t_seq ?_
          refine t_region ?_
          refine l_q rfl (q_loadAggL rfl ty_agg122 ty_size122 tk sb) ?_
          first | refine l_q rfl (q_fieldAddr0 0 rfl Tryz.underlying118 rfl rfl ty_size3) ?_ | refine l_q rfl (q_fieldAddrK 0 rfl Tryz.underlying118 rfl rfl ty_size3) ?_
          refine l_q rfl (q_loadL rfl ty_agg3 tk ga) ?_
          apply l_q rfl
          · apply q_bin rfl rfl (fun w => g_int w); first | exact fun w => b_rem_i w (by omega) | exact fun w => b_rem w (by omega)
          refine l_q rfl (q_move rfl) ?_
          rw [show ((8 * g + i : Nat) : Int) % 8 = ((i : Nat) : Int) by omega]
          apply l_callf rfl rfl rfl (Erase_ok pa (go + g * gN l) s l (grpC T.cells g) hP.hl hgood hG' hok' i _ hi)
          · exact pk
          rintro v L' ⟨rfl, rfl⟩
          refine l_nm ?_
          rw [show (decide ((((if passedB T.cells (8 * g + i) then 0 else (slotsF (empS (grpC T.cells g))).length : Nat)) : Int) = 0)) = passedB T.cells (8 * g + i) by rw [hpb]; by_cases hz : (slotsF (empS (grpC T.cells g))).length = 0 <;> simp [hz]]
          refine l_q rfl (q_assign rfl) ?_
          refine l_nil ?_
          refine n_code ?_
          refine t_seq ?_
          refine t_region ?_
          refine l_q rfl (q_move rfl) ?_
          apply l_q rfl
          · apply q_bin rfl rfl (fun w => g_int w); exact fun w => b_neq w
          refine l_nil ?_
          refine n_code ?_
          first | refine t_cond_d rfl (fun p5 => ?_) (fun p5 => ?_) | refine t_cond_n rfl (fun p5 => ?_) (fun p5 => ?_) | refine t_cond rfl (fun p5 => ?_) (fun p5 => ?_)
          · exact absurd rfl p5
          · refine t_skip ?_
            refine n_code ?_
            refine t_seq ?_
            refine t_region ?_
            refine l_q rfl (q_loadAggL rfl ty_agg68 ty_size68 tk sb) ?_
            first | refine l_q rfl (q_fieldAddr0 0 rfl Tryz.underlying75 rfl rfl ty_size3) ?_ | refine l_q rfl (q_fieldAddrK 0 rfl Tryz.underlying75 rfl rfl ty_size3) ?_
            refine l_q rfl (q_loadL rfl ty_agg3 tk ga) ?_
            apply l_q rfl
            · apply q_bin rfl rfl (fun w => g_int w); first | exact fun w => b_sub_i w (by omega) | exact fun w => b_sub w
            apply l_callf rfl rfl rfl (set_ok pa off 3 _ l 24 _ rfl (by decide) hw.1.gh)
            · exact pk
            rintro v L' rfl
            refine l_nm ?_
            refine l_nil ?_
            refine n_code ?_
            refine t_seq ?_
            refine t_seq ?_
            refine t_region ?_
            refine l_q rfl (q_move rfl) ?_
            refine l_q rfl (q_un rfl (fun w => u_not w)) ?_
            refine l_nil ?_
            refine n_code ?_
            cases hpq : passedB T.cells (8 * g + i) with
            | true =>
              simp only [hpq, ↓reduceIte] at hw w1 ⊢
              first | refine t_cond_d rfl (fun p6 => ?_) (fun p6 => ?_) | refine t_cond_n rfl (fun p6 => ?_) (fun p6 => ?_) | refine t_cond rfl (fun p6 => ?_) (fun p6 => ?_)
              · cases p6
              · refine t_skip ?_
                refine n_code ?_
                refine t_seq ?_
                refine t_region ?_
                refine l_q rfl (q_assign rfl) ?_
                refine l_q rfl (q_assign rfl) ?_
                refine l_nil ?_
                refine n_code ?_
                refine t_ret ?_
                apply f_ret (.inl rfl) ([G, arenaH pa ((s.put (go + g * gN l) (gN l) (encG l (updC (grpC T.cells g) i .deleted))).put (off + 8 * 3) 8 (byteN (IntKind.u64.wrap (T.used - 1))))])
                · apply res2 rfl
                  · exact .tmp rfl
                  · exact .tmp rfl
                · exact ⟨_, rfl, rfl, w1.1, hw.2.trans w1.2⟩
                · exact en
            | false =>
              simp only [hpq, Bool.false_eq_true, ↓reduceIte] at hw w1 ⊢
              first | refine t_cond_d rfl (fun p6 => ?_) (fun p6 => ?_) | refine t_cond_n rfl (fun p6 => ?_) (fun p6 => ?_) | refine t_cond rfl (fun p6 => ?_) (fun p6 => ?_)
              · refine t_region ?_
                refine l_q rfl (q_loadAggL rfl ty_agg68 ty_size68 tk sb) ?_
                first | refine l_q rfl (q_fieldAddr0 2 rfl Tryz.underlying75 rfl rfl ty_size3) ?_ | refine l_q rfl (q_fieldAddrK 2 rfl Tryz.underlying75 rfl rfl ty_size3) ?_
                refine l_q rfl (q_loadL rfl ty_agg3 tk ga) ?_
                apply l_q rfl
                · apply q_bin rfl rfl (fun w => g_int w); first | exact fun w => b_add_i w (by omega) | exact fun w => b_add w
                have w2 := w1.1.word (T' := { T with used := T.used - 1, left := T.left + 1, cells := updC T.cells (8 * g + i) .empty }) (k := 5) (v := T.left + 1) (by decide) (by omega) rfl (head_ne (.inr rfl) (.inr rfl) (.inr rfl) (.inr rfl) (.inl rfl) (.inr rfl)) rfl
                apply l_callf rfl rfl rfl (set_ok pa off 5 _ l 40 _ rfl (by decide) w1.1.gh)
                · exact pk
                rintro v L' rfl
                refine l_nm ?_
                refine l_nil ?_
                refine n_code ?_
                refine t_seq ?_
                refine t_region ?_
                refine l_q rfl (q_assign rfl) ?_
                refine l_q rfl (q_assign rfl) ?_
                refine l_nil ?_
                refine n_code ?_
                refine t_ret ?_
                apply f_ret (.inl rfl) ([G, arenaH pa (((s.put (go + g * gN l) (gN l) (encG l (updC (grpC T.cells g) i .empty))).put (off + 8 * 3) 8 (byteN (IntKind.u64.wrap (T.used - 1)))).put (off + 8 * 5) 8 (byteN (IntKind.u64.wrap (T.left + 1))))])
                · apply res2 rfl
                  · exact .tmp rfl
                  · exact .tmp rfl
                · exact ⟨_, rfl, rfl, w2.1, (hw.2.trans w1.2).trans w2.2⟩
                · exact en
              · cases p6
end
end Go.Proofs.YthdmlgnhmbobaaaGreatDoor.Table
