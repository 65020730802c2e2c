/- Contracts of package group: Find. -/
import Derived.Test.YtgijnebgchkenaaGreatDoorTable
set_option linter.unusedVariables false
set_option linter.unusedSimpArgs false
set_option maxRecDepth 100000
namespace Go.Proofs.YtgijnebgchkenaaGreatDoor.Group
open Go.RowKit Go.Proofs Go.Proofs.YtgijnebgchkenaaGreatDoor.Eng Go.Proofs.YtgijnebgchkenaaGreatDoor.Ty Go.Proofs.YtgijnebgchkenaaGreatDoor.Bits Go.Proofs.YtgijnebgchkenaaGreatDoor.Mem Go.Proofs.YtgijnebgchkenaaGreatDoor.Search Go.Proofs.YtgijnebgchkenaaGreatDoor.Arena Go.Proofs.YtgijnebgchkenaaGreatDoor.CtrlB Go.Proofs.YtgijnebgchkenaaGreatDoor.Ctrl Go.Proofs.YtgijnebgchkenaaGreatDoor.Layout Go.Proofs.YtgijnebgchkenaaGreatDoor.GroupB Go.Proofs.YtgijnebgchkenaaGreatDoor.Probe Go.Proofs.YtgijnebgchkenaaGreatDoor.TableB Go.Proofs.YtgijnebgchkenaaGreatDoor.Table

theorem GFind_ok (G : HP) (hGT : TabOk G) (pa off : Nat) (s : ArS) (l : Lay) (cs : Nat → Cell) (hl : l.err = 0) (hg : goodP s off l.group) (hG : GAt s.m off l cs) (hok : ∀ i, i < 8 → (cs i).ok l) (t : Nat) (ht : t < 128) (key : ByteArray) (hk : key.size = kN l) :
    FnOk Tryz.prog 175 #[.agg #[.pointer (some ⟨pa, 0, none⟩), .int .i64 l.key, .int .i64 l.elem, .int .i64 l.ka, .int .i64 l.ea, .int .i64 l.cap, .int .i64 l.eo, .int .i64 l.bo, .int .i64 l.slot, .int .i64 l.group, .int .i64 off], .int .i64 t, .string key] [G, arenaH pa s] (fun v L => v = .tuple #[.int .i64 (firstF (hitS cs t key) : Nat), .int .i64 0] ∧ L = [G, arenaH pa s]) := by
  have hN := layN hl
  have hn8 := hN.g_eq; have hns := hN.s_eq
  have h1 := hN.g; have h2 := hN.k; have h3 := hN.e; have h4 := hN.eo; have h5 := hN.bo; have h6 := hN.s
  have h7 := hN.eo1; have h8 := hN.bo1
  have hks : (key.size : Int) = l.key := by rw [hk]; exact hN.k
  have hg8 : goodP s off 8 := goodP.sub hg (by omega) (by omega) (by omega)
  refine fn_intro en175 Tryz.func175 rfl rfl rfl fun Fr w0 => t_nm ?_
  refine t_pure (φ := s.ok) (fun w hw => arena_ok hw (.there .here)) fun hok0 => ?_
  have hge := goodP.end_le hok0 hg
  have hst0 := hok0.stop_eq
  have hit : ∀ i, i < 8 → 8 + i * sN l + (sN l - 1) < gN l := fun i hi => slot_in hN hi (r := sN l - 1) (by omega)
  have hpl : ∀ (i : Nat) (x : Int), i < 8 → placeI l i x = 8 + ((i * sN l : Nat) : Int) + x := fun i x hi => by unfold placeI; rw [if_neg (by omega), Int.natCast_mul, h6]
  refine sr <| o_boxA rfl rfl fun b3 => o_box1 rfl rfl rfl fun b5 => o_alloc1 rfl yZ3 rfl fun b6 => o_alloc1 rfl yZ44 rfl fun b7 => lc <| t_seq <| t_draw mixed ?_
  apply dq 0 rfl
  · exact yq (q_move rfl)
  apply dq 1 rfl
  · exact yq (qi rfl rfl (b_lss ·))
  apply dq 2 rfl
  · exact yq (q_move rfl)
  apply dq 7 rfl
  · exact yq (qld rfl yA9)
  apply dq 8 rfl
  · exact yq (qls rfl yU9)
  apply dq 9 rfl
  · exact yq (qfa 1 rfl yU63 rfl rfl yS32)
  apply dq 10 rfl
  · exact yq (qfa 0 rfl yU32 rfl rfl yS3)
  apply dq 11 rfl
  · exact yq (qld rfl yA3)
  apply dq 12 rfl
  · exact yq (qi rfl rfl (b_neq ·))
  apply dq 14 rfl
  · exact yq (qlda rfl yA63 yS63)
  refine d_pt (t := 16) rfl (fun p1 => ?_) fun p1 => ?_
  · omega
  · apply dq 3 rfl
    · exact yq_on rfl rfl (q_move rfl)
    apply dq 4 rfl
    · exact yq_on rfl rfl (qi rfl rfl (b_gtr ·))
    apply dq 5 rfl
    · exact yq (q_pk rfl rfl)
    refine d_eff1 [5, 2, 4, 1, 3, 0] [14, 12, 11, 10, 9, 8, 7] 6 [(19, _)] gO ⟨rfl, trivial⟩ (by kernel_rfl) (by kernel_rfl) fun Ex => ?_
    refine lc1 rfl rfl rfl (when_no _ _ (by simp; omega)) ?_
    refine l_nil ?_
    apply n_d
    · refine ⟨?_, ?_, ?_, ?_, ?_, ?_, ?_, trivial⟩
      · apply ya rfl rfl; exact yq (qlda rfl yA63 yS63)
      · apply ya rfl rfl; exact yq (qi rfl rfl (b_neq ·))
      · apply ya rfl rfl; exact yq (qld rfl yA3)
      · apply ya rfl rfl; exact yq (qfa 0 rfl yU32 rfl rfl yS3)
      · apply ya rfl rfl; exact yq (qfa 1 rfl yU63 rfl rfl yS32)
      · apply ya rfl rfl; exact yq (qls rfl yU9)
      · apply ya rfl rfl; exact yq (qld rfl yA9)
    refine d_eff1 [12, 8, 11, 7, 10, 9] [14] 13 [(26, _)] gO ⟨rfl, trivial⟩ (by kernel_rfl) (by kernel_rfl) fun Ex => ?_
    refine lc1 rfl rfl rfl (when_no _ _ (by simp; omega)) ?_
    refine l_nil ?_
    apply n_d
    · refine ⟨?_, trivial⟩
      · apply ya rfl rfl; exact yq (qlda rfl yA63 yS63)
    refine d_eff1 [14] [] 15 [(28, _)] gO ⟨rfl, trivial⟩ (by kernel_rfl) (by kernel_rfl) fun Ex => ?_
    refine lc1 rfl rfl rfl (there_ok pa off s l hl hg) ?_
    refine l_nil ?_
    apply n_d
    · exact trivial
    refine d_eff1 [] [] 16 [(20, _), (27, _), (29, _)] gO ⟨rfl, rfl, rfl, trivial⟩ (by kernel_rfl) (by kernel_rfl) fun Ex => ?_
    refine o_buildSlice1 [_, _, _] rfl rfl yU236 yS44 yZ44 rfl rfl rfl rfl (fun b30 => ?_)
    refine l_nil ?_
    apply n_d
    · exact trivial
    refine d_eff1 [] [] 17 [(30, _)] gO ⟨rfl, trivial⟩ (by kernel_rfl) (by kernel_rfl) fun Ex => ?_
    refine lc1 rfl rfl rfl (first3_ok b30 0 0 0) ?_
    refine l_nil ?_
    apply n_d
    · exact trivial
    refine d_eff1 [] [] 18 [(31, _)] gO ⟨rfl, trivial⟩ (by kernel_rfl) (by kernel_rfl) fun Ex => ?_
    refine asg rfl rfl <| l_nil ?_
    apply n_d
    · exact trivial
    refine d_end (by kernel_rfl) ?_
    refine n_code <| t_seq <| sr <| mv rfl rfl <| l_q rfl (qi rfl rfl (b_neq ·)) <| lc <| t_if rfl (fun z => ?_) fun z => ?_
    · exact absurd rfl z
    · refine t_skip <| nz <| l_q rfl (qfa 0 rfl yU63 rfl rfl yS30) <| l_q rfl (qld rfl yA30) ?_
      refine l_q rfl (qfa 10 rfl yU63 rfl rfl yS3) <| l_q rfl (qld rfl yA3) ?_
      refine lc1 rfl rfl rfl (Load_okI pa s _ _ off 8 rfl rfl (by unfold wid; omega) hg8) ?_
      rw [load_ctrl hG hN hok]
      refine mv rfl rfl <| l_q rfl (q_extractL rfl ga) ?_
      refine l_q rfl (q_extractL rfl ga) ?_
      refine asg rfl rfl <| asg rfl rfl <| lc <| t_seq <| sr <| mv rfl rfl <| mv rfl rfl <| lc1 rfl rfl rfl (Match_ok _ (ok_ct hok) t ht) ?_
      refine lcf rfl rfl rfl (All_ok _) ?_
      rintro v L' ⟨b46, rfl, rfl⟩
      refine l_nm ?_
      refine lc <| t_block ?_
      have hsel : ∀ j (hj : j < (slotsF (sS cs t)).length), (slotsF (sS cs t))[j] < 8 ∧ sS cs t (slotsF (sS cs t))[j] = true := fun j hj => slotsF_mem.1 (List.getElem_mem hj)
      apply t_range (p := (fun i (_ : Unit) => ∀ j (hj : j < (slotsF (sS cs t)).length), j < i → (cs (slotsF (sS cs t))[j]).keyS ≠ key)) (J := (fun i _ => [pt b3 (.cells #[.pointer (some ⟨pa, 0, none⟩), .int .i64 l.key, .int .i64 l.elem, .int .i64 l.ka, .int .i64 l.ea, .int .i64 l.cap, .int .i64 l.eo, .int .i64 l.bo, .int .i64 l.slot, .int .i64 l.group, .int .i64 (off : Nat)] 63 (0, 0)), pt b5 (.cells #[.string key] 9 (0, 0)), pt b6 (.cells #[.int .i64 0] 3 (0, 0)), pt b7 (.cells #[.int .i64 0] 44 (0, 0)), arenaH pa s])) (q := (fun i (y : Code × Nat) => y.1 = .ret ∧ firstF (hitS cs t key) = y.2)) (Jx := (fun i y => [pt b6 (.cells #[.int .i64 (y.2 : Nat)] 3 (0, 0)), pt b7 (.cells #[.int .i64 0] 44 (0, 0)), arenaH pa s])) (x0 := ()) (hc := All_it G hGT b46 _) (hr := rfl) (hg := rfl)
      · exact pk
      · (intro j hj; omega)
      · (try dsimp only); (try simp only [Int.natCast_zero, Nat.sub_zero]); exact pk
      · rfl
      · (intro x hx; simp only [slotsV, List.mem_map] at hx; obtain ⟨_, _, rfl⟩ := hx; rfl)
      · intro ll rc Fr' w1 i x jj hrd hpn hx hj
        obtain ⟨hi2, rfl⟩ := slotsV_get hx
        obtain ⟨ix, hix⟩ : ∃ ix, ix = (slotsF fun i => ctF cs i == t)[i]'hi2 := ⟨_, rfl⟩
        rw [← hix]
        have hs8 : ix < 8 := by rw [hix]; exact (hsel i hi2).1
        have hst : sS cs t ix = true := by rw [hix]; exact (hsel i hi2).2
        have hix2 : (slotsF (sS cs t))[i]'hi2 = ix := hix.symm
        obtain ⟨k0, e0, bb, hc⟩ := (sel_full hok ht hs8).1 hst
        have hi3 := hit _ hs8
        have hkk : strM s.m (off + (8 + ix * sN l)) (kN l) = k0 := by
          have hcok := hok _ hs8
          rw [hc] at hcok
          obtain ⟨_, _, hk0, _⟩ := hcok
          rw [← hk0]
          refine strM_eq hok0.bytes fun j hj => ?_
          rw [← encS_key hN (t := t) (e := e0) (b := bb) hk0 hj, ← hc, ← hG.slot hN hs8 (by omega)]
          congr 1; omega
        refine t_nm ?_
        refine t_region <| asg rfl rfl <| l_nil ?_
        apply n_begin
        · exact tk
        · assumption
        refine t_block <| t_seq <| t_draw mixed ?_
        apply dq 0 rfl
        · exact yq (qfa 0 rfl yU63 rfl rfl yS30)
        apply dq 1 rfl
        · exact yq (qld rfl yA30)
        apply dq 2 rfl
        · exact yq (qfa 10 rfl yU63 rfl rfl yS3)
        apply dq 3 rfl
        · exact yq (qld rfl yA3)
        apply dq 4 rfl
        · exact yq (qfa 1 rfl yU63 rfl rfl yS32)
        apply dq 5 rfl
        · exact yq (qlda rfl yA32 yS32)
        apply dq 6 rfl
        · exact yq (q_move rfl)
        apply dq 9 rfl
        · exact yq (qfa 1 rfl yU63 rfl rfl yS32)
        apply dq 10 rfl
        · exact yq (qfa 0 rfl yU32 rfl rfl yS3)
        apply dq 11 rfl
        · exact yq (qld rfl yA3)
        refine d_eff1 [5, 6, 4] [11, 10, 9, 3, 2, 1, 0] 7 [(54, _), (55, _)] gO ⟨rfl, rfl, trivial⟩ (by kernel_rfl) (by kernel_rfl) fun Ex => ?_
        refine lc1 rfl rfl rfl (KeyAt_ok l hl _) ?_
        rw [hpl _ _ hs8]
        refine l_nil ?_
        apply n_d
        · refine ⟨?_, ?_, ?_, ?_, ?_, ?_, ?_, trivial⟩
          · apply ya rfl rfl; exact yq (qld rfl yA3)
          · apply ya rfl rfl; exact yq (qfa 0 rfl yU32 rfl rfl yS3)
          · apply ya rfl rfl; exact yq (qfa 1 rfl yU63 rfl rfl yS32)
          · apply ya rfl rfl; exact yq (qld rfl yA3)
          · apply ya rfl rfl; exact yq (qfa 10 rfl yU63 rfl rfl yS3)
          · apply ya rfl rfl; exact yq (qld rfl yA30)
          · apply ya rfl rfl; exact yq (qfa 0 rfl yU63 rfl rfl yS30)
        apply dq 8 rfl
        · exact yq (qadd rfl rfl)
        refine d_eff1 [1, 8, 11, 0, 3, 10, 2, 9] [] 12 [(50, _), (57, _), (60, _)] gO ⟨rfl, rfl, rfl, trivial⟩ (by kernel_rfl) (by kernel_rfl) fun Ex => ?_
        refine lc1 rfl rfl rfl (Read_okI pa s _ l.key (off + (8 + ix * sN l)) (kN l) (by omega) (by omega) (goodP.sub hg (by omega) (by omega) (by omega))) ?_
        rw [hkk]
        refine l_nil ?_
        apply n_d
        · exact trivial
        apply dq 13 rfl
        · exact yq (q_move rfl)
        apply dq 14 rfl
        · exact yq (q_extractL rfl ga)
        apply dq 15 rfl
        · exact yq (q_extractL rfl ga)
        refine d_eff1 [14, 13] [15] 16 [(62, _)] gO ⟨rfl, trivial⟩ (by kernel_rfl) (by kernel_rfl) fun Ex => ?_
        refine asg rfl rfl <| l_nil ?_
        apply n_d
        · refine ⟨?_, trivial⟩
          · apply ya rfl rfl; exact yq (q_extractL rfl ga)
        refine d_eff1 [15] [] 17 [(63, _)] gO ⟨rfl, trivial⟩ (by kernel_rfl) (by kernel_rfl) fun Ex => ?_
        refine asg rfl rfl <| l_nil ?_
        apply n_d
        · exact trivial
        refine d_end (by kernel_rfl) ?_
        refine nz <| mv rfl rfl <| l_q rfl (qld rfl yA9) ?_
        refine l_q rfl (qs rfl rfl (b_eqlS ·)) <| lc <| t_if rfl (fun q => ?_) fun q => ?_
        · refine sr <| mv rfl rfl <| st rfl rfl rfl yS3 rfl ?_
          refine st rfl rfl rfl yS44 rfl ?_
          refine lc <| rt ?_
          apply r_left (.inl ⟨rfl, rfl⟩) (ix) (⟨rfl, by rw [hit_at hok ht hi2 hj (by rw [hix2, hc]; exact q), hix2]⟩)
          exact en
        · refine t_skip <| n_blk ?_
          apply r_next (by assumption) (by assumption) (()) (fun j hj' hji => by by_cases e1 : j = i; (subst e1; exact fun e2 => q ((by rw [← e2, show (slotsF (sS cs t))[j] = ix from hix2, hc]; rfl))); exact hj j hj' (by omega))
          exact en
      · intro b jj hj
        rw [slotsV_len] at hj
        have hnh := hit_none hok ht (key := key) (fun j hj' => hj j hj' hj')
        refine n_nm ?_
        refine n_blk <| nz <| st rfl rfl rfl yS3 rfl ?_
        refine st rfl rfl rfl yS44 rfl ?_
        refine lc <| rt ?_
        rw [hnh]
        apply f_retm (.inl rfl) [b] ([G, arenaH pa s])
        · repeat (first | with_reducible exact TakeM.nil | apply TakeM.cons | with_reducible exact Take.here | apply Take.there)
        · apply res2 rfl
          · apply Rv.cellL rfl
            · exact tk
            · exact ga
            · exact yA3
          · apply Rv.cellL rfl
            · exact tk
            · exact ga
            · exact yA44
        · exact ⟨rfl, rfl⟩
        · exact en
      · rintro b k ⟨jc, yy⟩ hk2 ⟨rfl, hy⟩
        refine t_nm ?_
        refine rt ?_
        rw [hy]
        apply f_retm (.inl rfl) [b] ([G, arenaH pa s])
        · repeat (first | with_reducible exact TakeM.nil | apply TakeM.cons | with_reducible exact Take.here | apply Take.there)
        · apply res2 rfl
          · apply Rv.cellL rfl
            · exact tk
            · exact ga
            · exact yA3
          · apply Rv.cellL rfl
            · exact tk
            · exact ga
            · exact yA44
        · exact ⟨rfl, rfl⟩
        · exact en
end Go.Proofs.YtgijnebgchkenaaGreatDoor.Group
