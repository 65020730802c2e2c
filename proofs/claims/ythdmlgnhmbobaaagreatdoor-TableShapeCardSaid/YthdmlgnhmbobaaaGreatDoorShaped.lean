/- TableShape answers true. -/
import Derived.Test.YthdmlgnhmbobaaaGreatDoorShape
set_option linter.unusedVariables false
set_option linter.unusedSimpArgs false
set_option maxRecDepth 100000
namespace Go.Proofs.YthdmlgnhmbobaaaGreatDoor.Bench
open Go.RowKit Go.Proofs Go.Proofs.YthdmlgnhmbobaaaGreatDoor.Eng Go.Proofs.YthdmlgnhmbobaaaGreatDoor.Ty Go.Proofs.YthdmlgnhmbobaaaGreatDoor.Bits Go.Proofs.YthdmlgnhmbobaaaGreatDoor.Mem Go.Proofs.YthdmlgnhmbobaaaGreatDoor.Search Go.Proofs.YthdmlgnhmbobaaaGreatDoor.Arena Go.Proofs.YthdmlgnhmbobaaaGreatDoor.CtrlB Go.Proofs.YthdmlgnhmbobaaaGreatDoor.Ctrl Go.Proofs.YthdmlgnhmbobaaaGreatDoor.Layout Go.Proofs.YthdmlgnhmbobaaaGreatDoor.GroupB Go.Proofs.YthdmlgnhmbobaaaGreatDoor.Group Go.Proofs.YthdmlgnhmbobaaaGreatDoor.Probe Go.Proofs.YthdmlgnhmbobaaaGreatDoor.TableB Go.Proofs.YthdmlgnhmbobaaaGreatDoor.TableI Go.Proofs.YthdmlgnhmbobaaaGreatDoor.Table Go.Proofs.YthdmlgnhmbobaaaGreatDoor.Ref03


theorem TableShape_ok (G : HP) (hG : TabOk G) (vf vh vt : Value) (xs hs : List Int) (ts : List (Int × Int × Int)) (hA : IntsAt G vf xs) (hh : NumsAt .u64 G vh hs) (hT : TurnsAt G vt ts) (hwf : ∀ x ∈ hs, 0 ≤ x ∧ x < 18446744073709551616) (hmx : hs.length ≤ maxLen) (hmt : ts.length ≤ maxLen)
    (htw : ∀ t ∈ ts, turnWf t) (slots : Int) (hs64 : -9223372036854775808 ≤ slots ∧ slots ≤ 9223372036854775807) :
    FnOk Tryz.prog 6 #[.agg #[vf, .int .i64 slots, vh, vt]] [G] (fun v L => v = .bool true ∧ L = [G]) := by
  simp only [maxLen] at hmt
  obtain ⟨ta, tcap, rfl, hT0⟩ := hT
  refine fn_intro en6 Tryz.func6 rfl rfl rfl ?_
  intro Fr w0
  refine t_nm ?_
  refine t_seq ?_
  refine t_region ?_
  refine o_boxA rfl rfl (fun b1 => ?_)
  refine l_q rfl (q_assign rfl) ?_
  refine l_nil ?_
  refine n_code ?_
  refine t_seq ?_
  refine t_region ?_
  refine l_q rfl (q_loadAggL rfl ty_agg59 ty_size59 tk sb) ?_
  apply l_callf rfl rfl rfl (bench_ok G vf vh _ xs hs hA hh slots hs64)
  · exact pk
  rintro v L' (⟨rfl, rfl⟩ | ⟨pa, pb, off, go, n, e, s0, hle, hn, rfl, h0, rfl, rfl, hP0⟩)
  refine l_nm ?_
  · skip
    refine l_nm ?_
    refine l_q rfl (q_move rfl) ?_
    refine l_q rfl (q_extractL rfl ga) ?_
    refine l_q rfl (q_extractL rfl ga) ?_
    refine l_q rfl (q_extractL rfl ga) ?_
    refine l_q rfl (q_assign rfl) ?_
    refine l_q rfl (q_assign rfl) ?_
    refine l_q rfl (q_assign rfl) ?_
    refine l_nil ?_
    refine n_code ?_
    refine t_seq ?_
    refine t_seq ?_
    refine t_region ?_
    refine l_q rfl (q_move rfl) ?_
    refine l_q rfl (q_un rfl (fun w => u_not w)) ?_
    refine l_nil ?_
    refine n_code ?_
    first | refine t_cond_d rfl (fun p1 => ?_) (fun p1 => ?_) | refine t_cond_n rfl (fun p1 => ?_) (fun p1 => ?_) | refine t_cond rfl (fun p1 => ?_) (fun p1 => ?_)
    · refine t_seq ?_
      refine t_region ?_
      refine l_q rfl (q_assign rfl) ?_
      refine l_nil ?_
      refine n_code ?_
      refine t_ret ?_
      refine r_code ?_
      apply f_ret (.inl rfl) ([G])
      · apply res1 rfl
        · exact .tmp rfl
      · exact ⟨rfl, rfl⟩
      · exact en
    · cases p1
  · skip
    refine l_nm ?_
    refine l_q rfl (q_move rfl) ?_
    refine l_q rfl (q_extractL rfl ga) ?_
    refine l_q rfl (q_extractL rfl ga) ?_
    refine l_q rfl (q_extractL rfl ga) ?_
    refine l_q rfl (q_assign rfl) ?_
    refine l_q rfl (q_assign rfl) ?_
    refine l_q rfl (q_assign rfl) ?_
    refine l_nil ?_
    refine n_code ?_
    refine t_seq ?_
    refine t_seq ?_
    refine t_region ?_
    refine l_q rfl (q_move rfl) ?_
    refine l_q rfl (q_un rfl (fun w => u_not w)) ?_
    refine l_nil ?_
    refine n_code ?_
    first | refine t_cond_d rfl (fun p1 => ?_) (fun p1 => ?_) | refine t_cond_n rfl (fun p1 => ?_) (fun p1 => ?_) | refine t_cond rfl (fun p1 => ?_) (fun p1 => ?_)
    · cases p1
    · skip
      have hn0 := hP0.n0
      have hsh : ∀ (T : Tb) (lives : List Life) (ad : Nat), BI n (planH hs (kN (lay5 xs))) (planK (kN (lay5 xs))) T lives ad → ∀ u ∈ lives, 0 ≤ u.hash ∧ u.hash < 18446744073709551616 := fun T lives ad hI u hu => by
        rw [(hI.there u hu).2.2]; exact planH_wf h0 hwf _ _
      have hI0 := bi_start hn0.1 hs (kN (lay5 xs))
      refine t_ent (show Ent _ (ownS 73 5 (.slice none 0 0) ([] : List Life).length (rowOf Life.cells []) :: _) from fun w h => own_nil h) ?_
      refine t_skip ?_
      refine n_code ?_
      refine t_seq ?_
      refine t_seq ?_
      refine t_region ?_
      refine l_q rfl (q_move rfl) ?_
      refine l_q rfl (q_un rfl (fun w => u_not w)) ?_
      refine l_q rfl (q_move rfl) ?_
      first | refine l_part_d (t := 18) rfl (fun p2 => ?_) (fun p2 => ?_) | refine l_part_n (t := 18) rfl (fun p2 => ?_) (fun p2 => ?_) | refine l_part (t := 18) rfl (fun p2 => ?_) (fun p2 => ?_)
      · cases p2
      · refine l_on rfl rfl ?_
        refine l_q rfl (q_move rfl) ?_
        refine l_on rfl rfl ?_
        apply l_callf rfl rfl rfl (shape_ok pb pa off n e (lay5 xs) vf (.slice ta ts.length tcap) (.slice none 0 0) [] go s0 (newT n 0) 0 _ _ 0 vh hP0 hI0 (by omega) (hsh _ _ _ hI0))
        · exact pk
        rintro v L' ⟨rfl, rfl⟩
        refine l_nm ?_
        refine l_on rfl rfl ?_
        refine l_q rfl (q_un rfl (fun w => u_not w)) ?_
        first | refine l_q rfl (q_pick_t rfl rfl) ?_ | refine l_q rfl (q_pick_f rfl rfl) ?_
        refine l_nil ?_
        refine n_code ?_
        first | refine t_cond_d rfl (fun p3 => ?_) (fun p3 => ?_) | refine t_cond_n rfl (fun p3 => ?_) (fun p3 => ?_) | refine t_cond rfl (fun p3 => ?_) (fun p3 => ?_)
        · cases p3
        · refine t_skip ?_
          refine n_code ?_
          refine t_seq ?_
          refine t_seq ?_
          refine t_region ?_
          first | refine l_q rfl (q_fieldAddr0 3 rfl Tryz.underlying59 rfl rfl ty_size57) ?_ | refine l_q rfl (q_fieldAddrK 3 rfl Tryz.underlying59 rfl rfl ty_size57) ?_
          refine l_q rfl (q_loadL rfl ty_agg57 tk ga) ?_
          refine l_q rfl (q_len rfl (fun w => len_slice Tryz.underlying57 w)) ?_
          refine l_q rfl (q_move rfl) ?_
          refine l_nil ?_
          refine n_code ?_
          refine t_block ?_
          refine t_loop (fun x : Nat × ArS × Tb × List Life × Value × Nat => x.1 ≤ ts.length ∧ TabP x.2.1 off go (lay5 xs) n e x.2.2.1 ∧ BI n (planH hs (kN (lay5 xs))) (planK (kN (lay5 xs))) x.2.2.1 x.2.2.2.1 x.2.2.2.2.2 ∧ x.2.2.2.2.2 ≤ x.1) (fun x => [(3, .pointer (some ⟨pb, 0, none⟩)), (24, .slice ta ts.length tcap), (25, .int .i64 (ts.length : Nat)), (26, .int .i64 (x.1 : Nat))]) (fun x => pt pb (.cells #[.pointer (some ⟨pa, 0, none⟩), .int .i64 (lay5 xs).key, .int .i64 (lay5 xs).elem, .int .i64 (lay5 xs).ka, .int .i64 (lay5 xs).ea, .int .i64 (lay5 xs).cap, .int .i64 (lay5 xs).eo, .int .i64 (lay5 xs).bo, .int .i64 (lay5 xs).slot, .int .i64 (lay5 xs).group, .pointer (some ⟨pa, 0, none⟩), .int .i64 (lay5 xs).key, .int .i64 (lay5 xs).elem, .int .i64 (lay5 xs).ka, .int .i64 (lay5 xs).ea, .int .i64 (lay5 xs).cap, .int .i64 (lay5 xs).eo, .int .i64 (lay5 xs).bo, .int .i64 (lay5 xs).slot, .int .i64 (lay5 xs).group, .int .i64 ((off : Nat) : Int), vf, .int .i64 (8 * (n : Int)), vh, (.slice ta ts.length tcap), x.2.2.2.2.1, .int .i64 ((x.2.2.2.2.2 : Nat) : Int)] 71 (0, 0)) :: ownS 73 5 x.2.2.2.2.1 x.2.2.2.1.length (rowOf Life.cells x.2.2.2.1) :: G :: arenaH pa x.2.1 :: Fr) (fun x => ts.length - x.1) (0, s0, newT n 0, [], .slice none 0 0, 0) ⟨Nat.zero_le _, hP0, bi_start hn0.1 _ _, Nat.le_refl _⟩ ⟨rfl, rfl, rfl, rfl, trivial⟩ (by (exact en)) ?_
          rintro ⟨i, s, T, lives, lv, ad⟩ ⟨hi, hP, hI, had⟩
          dsimp only at hi hP hI had ⊢
          refine t_seq ?_
          refine t_region ?_
          apply l_q rfl
          · apply q_bin rfl rfl (fun w => g_int w); exact fun w => b_lss w
          refine l_nil ?_
          refine n_code ?_
          refine t_seq ?_
          first | refine t_cond_d rfl (fun g1 => ?_) (fun g1 => ?_) | refine t_cond_n rfl (fun g1 => ?_) (fun g1 => ?_) | refine t_cond rfl (fun g1 => ?_) (fun g1 => ?_)
          · skip
            obtain ⟨tb, to, rfl, hT1⟩ := hT0 (by omega)
            obtain ⟨t, ht⟩ : ∃ t, ts[i]? = some t := ⟨ts[i], List.getElem?_eq_getElem (by omega)⟩
            have hcell := cell_turn hT1 ht
            have hw := htw t (List.mem_of_getElem? ht)
            refine t_skip ?_
            refine n_code ?_
            refine t_seq ?_
            refine t_block ?_
            refine t_seq ?_
            refine t_region ?_
            refine l_q rfl (q_indexAddr rfl rfl Tryz.underlying57 ty_size63 (by omega)) ?_
            apply l_q rfl
            · apply q_loadRA (A := G) (us := [.int .i64 t.1, .int .i64 t.2.1, .int .i64 t.2.2]) rfl ty_agg63 ty_size63 rfl
              · exact tk
              · exact hcell
            refine o_allocA rfl ty_zero63 (fun b7 => ?_)
            apply o_storeAggL rfl rfl rfl ty_size63 rfl rfl (by simp)
            · exact tk
            · exact sal
            refine l_nil ?_
            refine n_code ?_
            refine t_seq ?_
            refine t_region ?_
            refine l_q rfl (q_move rfl) ?_
            refine l_q rfl (q_loadAggL rfl ty_agg63 ty_size63 tk sb) ?_
            apply l_callf rfl rfl rfl (turn_ok pb pa off n e (lay5 xs) vf (.slice (some ⟨tb, to, none⟩) ts.length tcap) lv (8 * (n : Int)) hs lives G hG go s T ad vh hh h0 hmx hwf hle hP hI rfl (by omega) (by omega) t.1 t.2.1 t.2.2 hw)
            · exact pk
            rintro v L' ⟨s', T', lives', lv', ad', rfl, rfl, hW⟩
            refine l_nm ?_
            refine l_q rfl (q_un rfl (fun w => u_not w)) ?_
            refine l_q rfl (q_move rfl) ?_
            first | refine l_part_d (t := 34) rfl (fun g2 => ?_) (fun g2 => ?_) | refine l_part_n (t := 34) rfl (fun g2 => ?_) (fun g2 => ?_) | refine l_part (t := 34) rfl (fun g2 => ?_) (fun g2 => ?_)
            · cases g2
            · refine l_on rfl rfl ?_
              refine l_q rfl (q_move rfl) ?_
              refine l_on rfl rfl ?_
              apply l_callf rfl rfl rfl (shape_ok pb pa off n e (lay5 xs) vf (.slice (some ⟨tb, to, none⟩) ts.length tcap) lv' lives' go s' T' ((ad' : Nat) : Int) _ _ ad' vh hW.tab hW.bi (by omega) (hsh _ _ _ hW.bi))
              · exact pk
              rintro v L' ⟨rfl, rfl⟩
              refine l_nm ?_
              refine l_on rfl rfl ?_
              refine l_q rfl (q_un rfl (fun w => u_not w)) ?_
              first | refine l_q rfl (q_pick_t rfl rfl) ?_ | refine l_q rfl (q_pick_f rfl rfl) ?_
              refine l_nil ?_
              refine n_code ?_
              first | refine t_cond_d rfl (fun g3 => ?_) (fun g3 => ?_) | refine t_cond_n rfl (fun g3 => ?_) (fun g3 => ?_) | refine t_cond rfl (fun g3 => ?_) (fun g3 => ?_)
              · cases g3
              · refine t_skip ?_
                refine n_blk ?_
                refine n_code ?_
                refine t_region ?_
                apply l_q rfl
                · apply q_bin rfl rfl (fun w => g_int w); first | exact fun w => b_add_i w (by omega) | exact fun w => b_add w
                refine l_q rfl (q_move rfl) ?_
                refine l_nil ?_
                apply n_again ((i + 1, s', T', lives', lv', ad'))
                · exact ⟨by dsimp only; omega, hW.tab, hW.bi, by have := hW.ad; dsimp only; omega⟩
                · dsimp only; omega
                · exact ⟨rfl, rfl, rfl, rfl, trivial⟩
                · exact en
          · refine t_exit ?_
            refine x_code ?_
            refine x_lp ?_
            refine x_hit ?_
            refine n_code ?_
            refine t_seq ?_
            refine t_region ?_
            refine l_q rfl (q_assign rfl) ?_
            refine l_nil ?_
            refine n_code ?_
            refine t_ret ?_
            apply f_ret (.inl rfl) ([G])
            · apply res1 rfl
              · exact .tmp rfl
            · exact ⟨rfl, rfl⟩
            · exact en
end Go.Proofs.YthdmlgnhmbobaaaGreatDoor.Bench
