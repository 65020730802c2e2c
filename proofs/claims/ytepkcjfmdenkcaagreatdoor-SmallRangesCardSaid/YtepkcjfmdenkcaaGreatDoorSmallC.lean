/- Contracts of package small: Cells, a range over the full slots. -/
import Derived.Test.YtepkcjfmdenkcaaGreatDoorSmallW
import Derived.Test.YtepkcjfmdenkcaaGreatDoorCells
set_option linter.unusedVariables false
set_option linter.unusedSimpArgs false
set_option maxRecDepth 100000
namespace Go.Proofs.YtepkcjfmdenkcaaGreatDoor.Small
open Go.RowKit Go.Proofs Go.Proofs.YtepkcjfmdenkcaaGreatDoor.Eng Go.Proofs.YtepkcjfmdenkcaaGreatDoor.Ty Go.Proofs.YtepkcjfmdenkcaaGreatDoor.Bits Go.Proofs.YtepkcjfmdenkcaaGreatDoor.Mem Go.Proofs.YtepkcjfmdenkcaaGreatDoor.Search Go.Proofs.YtepkcjfmdenkcaaGreatDoor.Arena Go.Proofs.YtepkcjfmdenkcaaGreatDoor.CtrlB Go.Proofs.YtepkcjfmdenkcaaGreatDoor.Ctrl Go.Proofs.YtepkcjfmdenkcaaGreatDoor.Layout Go.Proofs.YtepkcjfmdenkcaaGreatDoor.GroupB Go.Proofs.YtepkcjfmdenkcaaGreatDoor.Group Go.Proofs.YtepkcjfmdenkcaaGreatDoor.TableB Go.Proofs.YtepkcjfmdenkcaaGreatDoor.TableI Go.Proofs.YtepkcjfmdenkcaaGreatDoor.Table Go.Proofs.YtepkcjfmdenkcaaGreatDoor.Cells

theorem SCells_ok (pa off : Nat) (l : Lay) : FnOk Tryz.prog 7 #[.agg #[.pointer (some ⟨pa, 0, none⟩), .int .i64 l.key, .int .i64 l.elem, .int .i64 l.ka, .int .i64 l.ea, .int .i64 l.cap, .int .i64 l.eo, .int .i64 l.bo, .int .i64 l.slot, .int .i64 l.group, .int .i64 (off : Nat)]] [] (fun v L => ∃ bc, v = .func (.func 32) #[] #[.pointer (some ⟨bc, 0, none⟩)] ∧ L = [pt bc (.cells #[.pointer (some ⟨pa, 0, none⟩), .int .i64 l.key, .int .i64 l.elem, .int .i64 l.ka, .int .i64 l.ea, .int .i64 l.cap, .int .i64 l.eo, .int .i64 l.bo, .int .i64 l.slot, .int .i64 l.group, .int .i64 (off : Nat)] 39 (0, 0))]) := by
  refine fn_intro en7 Tryz.func7 rfl rfl rfl fun Fr w0 => t_nm ?_
  exact sr <| o_boxA rfl rfl fun b1 => asg rfl rfl <| lz <| l_q rfl (q_makeFunc rfl rfl) <| asg rfl rfl <| lc <| rt <| fr1 rfl ([pt b1 (.cells #[.pointer (some ⟨pa, 0, none⟩), .int .i64 l.key, .int .i64 l.elem, .int .i64 l.ka, .int .i64 l.ea, .int .i64 l.cap, .int .i64 l.eo, .int .i64 l.bo, .int .i64 l.slot, .int .i64 l.group, .int .i64 (off : Nat)] 39 (0, 0))]) (.tmp rfl) ⟨b1, rfl, rfl⟩
theorem SCells_itS (pa off bc : Nat) (s : ArS) (l : Lay) (S : Sm) (hP : SmP s off l S) : IterH Tryz.prog 32 #[.pointer (some ⟨bc, 0, none⟩)] [pt bc (.cells #[.pointer (some ⟨pa, 0, none⟩), .int .i64 l.key, .int .i64 l.elem, .int .i64 l.ka, .int .i64 l.ea, .int .i64 l.cap, .int .i64 l.eo, .int .i64 l.bo, .int .i64 l.slot, .int .i64 l.group, .int .i64 (off : Nat)] 39 (0, 0))] [arenaH pa s] (cellsV S.cells 8) [pt bc (.cells #[.pointer (some ⟨pa, 0, none⟩), .int .i64 l.key, .int .i64 l.elem, .int .i64 l.ka, .int .i64 l.ea, .int .i64 l.cap, .int .i64 l.eo, .int .i64 l.bo, .int .i64 l.slot, .int .i64 l.group, .int .i64 (off : Nat)] 39 (0, 0))] [pt bc (.cells #[.pointer (some ⟨pa, 0, none⟩), .int .i64 l.key, .int .i64 l.elem, .int .i64 l.ka, .int .i64 l.ea, .int .i64 l.cap, .int .i64 l.eo, .int .i64 l.bo, .int .i64 l.slot, .int .i64 l.group, .int .i64 (off : Nat)] 39 (0, 0))] := by
  refine ⟨en32, fun l' B S' C hC hY => ?_⟩
  show FnOk _ _ #[.func (.yield l') #[] #[], .pointer (some ⟨bc, 0, none⟩)] _ _
  refine fn_intro en32 Tryz.func32 rfl rfl rfl fun Fr w0 => t_nm ?_
  refine sr <| o_allocA rfl yZ42 fun b3 => lc <| t_seq <| sr <| mv rfl rfl <| lc <| t_block ?_
  refine t_loop (fun i : Nat => i ≤ 8) (fun i => [(0, .func (.yield l') #[] #[]), (1, .pointer (some ⟨bc, 0, none⟩)), (3, .pointer (some ⟨b3, 0, none⟩)), (9, .int .i64 (i : Nat))]) (fun i => pt b3 (.cells (arr8 (fstC S.cells i)).toArray 42 (0, 0)) :: pt bc (.cells #[.pointer (some ⟨pa, 0, none⟩), .int .i64 l.key, .int .i64 l.elem, .int .i64 l.ka, .int .i64 l.ea, .int .i64 l.cap, .int .i64 l.eo, .int .i64 l.bo, .int .i64 l.slot, .int .i64 l.group, .int .i64 (off : Nat)] 39 (0, 0)) :: arenaH pa s :: (C ++ Fr)) (fun i => 8 - i) 0 (by decide) ⟨rfl, rfl, rfl, rfl, trivial⟩ (by (exact en)) ?_
  intro i hi
  refine sr <| l_q rfl (qi rfl rfl (b_lss ·)) <| lc <| t_seq <| t_if rfl (fun h => ?_) fun h => ?_
  · have hi8 : i < 8 := by omega
    refine t_skip <| n_code <| t_seq <| t_block <| sr <| mv rfl rfl <| asg rfl rfl <| lz <| l_q rfl (qlda rfl yA39 yS39) ?_
    refine mv rfl rfl <| lc1 rfl rfl rfl (SCell_ok pa off s l S hP i hi8) ?_
    refine mv rfl rfl <| l_q rfl (q_extractL rfl ga) ?_
    refine l_q rfl (q_extractL rfl ga) ?_
    refine o_allocA rfl yZ41 fun b5 => sta rfl rfl rfl yS41 rfl rfl ?_
    refine asg rfl rfl <| lc <| t_seq <| sr <| mv rfl rfl <| l_q rfl (qi rfl rfl (b_neq ·)) <| lc <| t_if rfl (fun z => ?_) fun z => ?_
    · exact absurd rfl z
    · refine t_skip <| n_code <| t_region <| mv rfl rfl <| l_q rfl (qlda rfl yA41 yS41) ?_
      refine l_q rfl (q_indexAddrA rfl rfl yU42 yS41 (by omega)) ?_
      apply o_storeAgg rfl rfl rfl yS41 rfl rfl
      · exact tk
      · exact arr8_in rfl hi8 (Nat.le_refl _)
      · exact (arr8_put rfl hi8 (S.cells i)).trans (by rw [fstC_next])
      refine l_nil <| n_blk <| n_code <| t_region <| l_q rfl (qadd rfl rfl) ?_
      refine mv rfl rfl <| l_nil ?_
      apply n_again ((i + 1))
      · exact (show i + 1 ≤ 8 by omega)
      · omega
      · exact ⟨rfl, rfl, rfl, rfl, trivial⟩
      · exact en
  · obtain rfl : i = 8 := by omega
    refine xt rfl <| nz <| l_q rfl (q_loadAgg rfl yA42 yS42 tk rfl (arr8_all S.cells)) ?_
    refine mv rfl rfl <| lc <| t_block ?_
    refine t_weaken (E' := [(0, .func (.yield l') #[] #[]), (1, .pointer (some ⟨bc, 0, none⟩)), (24, .agg (arr8 S.cells).toArray), (25, .int .i64 0)]) (L' := B 0 :: pt bc (.cells #[.pointer (some ⟨pa, 0, none⟩), .int .i64 l.key, .int .i64 l.elem, .int .i64 l.ka, .int .i64 l.ea, .int .i64 l.cap, .int .i64 l.eo, .int .i64 l.bo, .int .i64 l.slot, .int .i64 l.group, .int .i64 (off : Nat)] 39 (0, 0)) :: Fr) ⟨rfl, rfl, rfl, rfl, trivial⟩ (fun w hw => ?_) ?_
    · exact hC _ _ (hw.tail.perm (by simpa using List.perm_append_comm_assoc [pt bc (.cells #[.pointer (some ⟨pa, 0, none⟩), .int .i64 l.key, .int .i64 l.elem, .int .i64 l.ka, .int .i64 l.ea, .int .i64 l.cap, .int .i64 l.eo, .int .i64 l.bo, .int .i64 l.slot, .int .i64 l.group, .int .i64 (off : Nat)] 39 (0, 0))] (arenaH pa s :: C) Fr))
    refine t_loop (fun i : Nat => i ≤ 8) (fun i => [(0, .func (.yield l') #[] #[]), (24, .agg (arr8 S.cells).toArray), (25, .int .i64 (i : Nat))]) (fun i => B (cnt isFull S.cells i) :: pt bc (.cells #[.pointer (some ⟨pa, 0, none⟩), .int .i64 l.key, .int .i64 l.elem, .int .i64 l.ka, .int .i64 l.ea, .int .i64 l.cap, .int .i64 l.eo, .int .i64 l.bo, .int .i64 l.slot, .int .i64 l.group, .int .i64 (off : Nat)] 39 (0, 0)) :: Fr) (fun i => 8 - i) 0 (by decide) ⟨rfl, rfl, rfl, trivial⟩ (Ent.refl _) ?_
    intro i hi
    have hcs := cnt_succ isFull S.cells i
    refine sr <| l_q rfl (qi rfl rfl (b_lss ·)) <| lc <| t_seq <| t_if rfl (fun h => ?_) fun h => ?_
    · skip
      have hi8 : i < 8 := by omega
      refine t_skip <| n_code <| t_seq <| t_block <| sr <| mv rfl rfl <| l_q rfl (q_indexArr rfl rfl Tryz.underlying42 yA41 yS41 (by omega) (arr8_part rfl hi8)) ?_
      refine o_allocA rfl yZ41 fun b8 => asg rfl rfl <| sta rfl rfl rfl yS41 rfl rfl ?_
      refine lz <| l_q rfl (qfa 0 rfl yU41 rfl rfl yS3) <| l_q rfl (qld rfl yA3) ?_
      refine l_q rfl (qi rfl rfl (b_eql ·)) <| mv rfl rfl <| l_pt (t := 32) rfl (fun x => ?_) fun x => ?_
      · refine l_on rfl rfl <| mv rfl rfl <| l_on rfl rfl <| mv rfl rfl <| l_on rfl rfl <| l_q rfl (qlda rfl yA41 yS41) ?_
        refine l_on rfl rfl ?_
        have hf := kind_full.1 x
        apply l_yield rfl rfl rfl ((hY _ _ (cellsV_get hi8 hf)))
        · exact pk
        · exact pk
        rintro b L' (⟨rfl, rfl⟩ | ⟨rfl, rfl⟩)
        · refine l_nm ?_
          refine l_on rfl rfl <| l_q rfl (q_un rfl (u_not ·)) <| l_q rfl (q_pk rfl rfl) <| lc <| t_cond_f rfl <| t_skip <| n_blk <| n_code <| t_region <| l_q rfl (qadd rfl rfl) ?_
          refine mv rfl rfl <| l_nil ?_
          rw [hf, if_pos rfl] at hcs
          rw [← hcs]
          apply n_again ((i + 1))
          · exact (show i + 1 ≤ 8 by omega)
          · omega
          · exact ⟨rfl, rfl, rfl, trivial⟩
          · exact en
        · refine l_nm ?_
          refine l_on rfl rfl <| l_q rfl (q_un rfl (u_not ·)) <| l_q rfl (q_pk rfl rfl) <| lc <| t_cond_t rfl <| rt ?_
          apply f_ret (.inl rfl) (_)
          · exact res0 rfl
          · exact .inr ⟨cnt isFull S.cells i, by rw [cellsV_len]; have := cnt_mono (p := isFull) (cs := S.cells) (show i + 1 ≤ 8 by omega); rw [hcs, hf, if_pos rfl] at this; omega, rfl⟩
          · exact en
      · refine l_off rfl rfl rfl rfl <| l_off rfl rfl rfl rfl <| l_off rfl rfl rfl rfl <| l_off rfl rfl rfl rfl <| l_off rfl rfl rfl rfl <| l_q rfl (q_pk rfl rfl) <| lc <| t_cond_f rfl <| t_skip <| n_blk <| n_code <| t_region <| l_q rfl (qadd rfl rfl) ?_
        refine mv rfl rfl <| l_nil ?_
        have hf : ¬ isFull (S.cells i) = true := fun e => x (kind_full.2 e)
        rw [if_neg hf] at hcs
        rw [show cnt isFull S.cells i = cnt isFull S.cells (i + 1) by omega]
        apply n_again ((i + 1))
        · exact (show i + 1 ≤ 8 by omega)
        · omega
        · exact ⟨rfl, rfl, rfl, trivial⟩
        · exact en
    · obtain rfl : i = 8 := by omega
      refine xt rfl ?_
      apply f_ret (.inr rfl) (_)
      · exact res0 rfl
      · exact .inl (by rw [cellsV_len])
      · exact en
theorem SCells_it (pa off bc : Nat) (s : ArS) (l : Lay) (S : Sm) (hP : SmP s off l S) : IterH Tryz.prog 32 #[.pointer (some ⟨bc, 0, none⟩)] [pt bc (.cells #[.pointer (some ⟨pa, 0, none⟩), .int .i64 l.key, .int .i64 l.elem, .int .i64 l.ka, .int .i64 l.ea, .int .i64 l.cap, .int .i64 l.eo, .int .i64 l.bo, .int .i64 l.slot, .int .i64 l.group, .int .i64 (off : Nat)] 39 (0, 0))] [arenaH pa s] (cellsV S.cells 8) [pt bc (.cells #[.pointer (some ⟨pa, 0, none⟩), .int .i64 l.key, .int .i64 l.elem, .int .i64 l.ka, .int .i64 l.ea, .int .i64 l.cap, .int .i64 l.eo, .int .i64 l.bo, .int .i64 l.slot, .int .i64 l.group, .int .i64 (off : Nat)] 39 (0, 0))] := (SCells_itS pa off bc s l S hP).plain
end Go.Proofs.YtepkcjfmdenkcaaGreatDoor.Small
