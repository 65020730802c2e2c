/- Contracts of larderlaw11's bench: key, place, turn, holds. -/
import Derived.Test.YtgijnebgchkenaaGreatDoorBenchSB
import Derived.Test.YtgijnebgchkenaaGreatDoorRef11
set_option linter.unusedVariables false
set_option linter.unusedSimpArgs false
set_option maxRecDepth 100000
namespace Go.Proofs.YtgijnebgchkenaaGreatDoor.BenchS
open Go.RowKit Go.Proofs Go.Proofs.YtgijnebgchkenaaGreatDoor.Eng Go.Proofs.YtgijnebgchkenaaGreatDoor.Ty Go.Proofs.YtgijnebgchkenaaGreatDoor.Bits Go.Proofs.YtgijnebgchkenaaGreatDoor.Mem Go.Proofs.YtgijnebgchkenaaGreatDoor.Layout Go.Proofs.YtgijnebgchkenaaGreatDoor.GroupB Go.Proofs.YtgijnebgchkenaaGreatDoor.Group Go.Proofs.YtgijnebgchkenaaGreatDoor.TableB Go.Proofs.YtgijnebgchkenaaGreatDoor.TableI Go.Proofs.YtgijnebgchkenaaGreatDoor.CtrlB Go.Proofs.YtgijnebgchkenaaGreatDoor.Ctrl Go.Proofs.YtgijnebgchkenaaGreatDoor.Small Go.Proofs.YtgijnebgchkenaaGreatDoor.Arena Go.Proofs.YtgijnebgchkenaaGreatDoor.Oracle Go.Proofs.YtgijnebgchkenaaGreatDoor.Ref03 Go.Proofs.YtgijnebgchkenaaGreatDoor.Ref11 Go.Proofs.YtgijnebgchkenaaGreatDoor.Cells


/-- The tag by the oracle. -/
def tgF (m : List (ByteArray × Value)) (sd : Int) (key : ByteArray) : Nat := (hashF m sd key % 128).toNat
theorem tgF_int {m : List (ByteArray × Value)} (sd : Int) (key : ByteArray) : ((tgF m sd key : Nat) : Int) = hashF m sd key % 128 := by unfold tgF; omega
theorem tgF_lt (m : List (ByteArray × Value)) (sd : Int) (key : ByteArray) : tgF m sd key < 128 := by unfold tgF; omega
section
variable (pb pa po bm off : Nat) (l : Lay) (vf vo vt : Value) (sd : Int) (m : List (ByteArray × Value)) (G : HP) (hGT : TabOk G) (hGO : OddOk G) (hm : OverOk m) (hsd : 0 ≤ sd ∧ sd < 18446744073709551616) (hl : l.err = 0) (S : Sm) (ad : Nat)
include hGO hm hsd hl
theorem key_ok (n : Int) : FnOk Tryz.prog 92 #[.pointer (some ⟨pb, 0, none⟩), .int .i64 n] [pt pb (.cells (bsc pa po l off vf vo sd vt S.cells ad).toArray 101 (0, 0)), pt po (.cells #[.map (some bm)] 191 (0, 0)), mapH (fun k : ByteArray => Value.string k) bm m, G]
    (fun v L => v = .tuple #[.string (textS (bits .and .i64 n 15) (kN l)), .int .i64 (tgF m sd (textS (bits .and .i64 n 15) (kN l)) : Nat)] ∧ L = [pt pb (.cells (bsc pa po l off vf vo sd vt S.cells ad).toArray 101 (0, 0)), pt po (.cells #[.map (some bm)] 191 (0, 0)), mapH (fun k : ByteArray => Value.string k) bm m, G]) := by
  have hN := layN hl
  have hbd := Lay.bnd hl
  refine fn_intro en92 Tryz.func92 rfl rfl rfl fun Fr w0 => t_nm ?_
  refine sr <| asg rfl rfl <| asg rfl rfl <| lz <| mv rfl rfl <| l_q rfl (qbit rfl rfl rfl) <| mv rfl rfl <| l_q rfl (q_nilCheck rfl) <| l_q rfl (qfa 1 rfl yU101 rfl rfl yS32) <| l_q rfl (qfa 0 rfl yU32 rfl rfl yS3) <| l_q rfl (qld rfl yA3) ?_
  refine lc1 rfl rfl rfl (text11_okI _ _ (kN l) hN.k.symm (by have := hN.k; omega)) ?_
  have hks : (textS (bits .and .i64 n 15) (kN l)).size = kN l := textS_size _ _
  generalize textS (bits .and .i64 n 15) (kN l) = key at hks ⊢
  have hb := hashF_bnd hm sd key
  have ht := tgF_int (m := m) sd key
  refine asg rfl rfl <| lc <| t_seq <| t_draw mixed ?_
  apply dq 0 rfl
  · exact yq (q_move rfl)
  apply dq 1 rfl
  · exact yq (q_move rfl)
  apply dq 2 rfl
  · exact yq (q_nilCheck rfl)
  apply dq 3 rfl
  · exact yq (qfa 10 rfl yU101 rfl rfl yS74)
  apply dq 4 rfl
  · exact yq (qld rfl yA74)
  apply dq 5 rfl
  · exact yq (q_move rfl)
  apply dq 6 rfl
  · exact yq (q_nilCheck rfl)
  apply dq 7 rfl
  · exact yq (qfa 22 rfl yU101 rfl rfl yS90)
  apply dq 8 rfl
  · exact yq (qfa 2 rfl yU90 rfl rfl yS52)
  apply dq 9 rfl
  · exact yq (qld rfl yA52)
  apply dq 10 rfl
  · exact yq (q_move rfl)
  refine d_eff1 [4, 9, 10, 3, 8, 2, 7, 1, 6, 5] [0] 11 [(19, _), (24, _), (25, _)] gO ⟨rfl, rfl, rfl, trivial⟩ (by kernel_rfl) (by kernel_rfl) fun Ex => ?_
  refine lc1 rfl rfl rfl (Hash_ok G hGO po bm m hm sd hsd key (by have := hN.k; omega)) ?_
  refine l_nil ?_
  apply n_d
  · refine ⟨?_, trivial⟩
    · apply ya rfl rfl; exact yq (q_move rfl)
  apply dq 12 rfl
  · exact yq (qrem rfl rfl)
  apply dq 13 rfl
  · exact yq (qcv rfl yU52 yU3)
  refine d_eff1 [0] [13, 12] 14 [(15, _)] gO ⟨rfl, trivial⟩ (by kernel_rfl) (by kernel_rfl) fun Ex => ?_
  refine asg rfl rfl <| l_nil ?_
  apply n_d
  · refine ⟨?_, ?_, trivial⟩
    · apply ya rfl rfl; exact yq (qcv rfl yU52 yU3)
    · apply ya rfl rfl; exact yq (qrem rfl rfl)
  refine d_eff1 [13, 12] [] 15 [(28, _)] gO ⟨rfl, trivial⟩ (by kernel_rfl) (by kernel_rfl) fun Ex => ?_
  refine asg rfl rfl <| l_nil ?_
  apply n_d
  · exact trivial
  refine d_end (by kernel_rfl) ?_
  refine n_code <| rt <| fr2 rfl ([pt pb (.cells (bsc pa po l off vf vo sd vt S.cells ad).toArray 101 (0, 0)), pt po (.cells #[.map (some bm)] 191 (0, 0)), mapH (fun k : ByteArray => Value.string k) bm m, G]) (.tmp rfl) (.tmp rfl) ?_
  exact ⟨by rw [ht], rfl⟩
omit hGO hm hsd hl in
theorem place_ok (cs : Nat → Cell) (key : ByteArray) : FnOk Tryz.prog 93 #[.pointer (some ⟨pb, 0, none⟩), .string key] [pt pb (.cells (bsc pa po l off vf vo sd vt cs ad).toArray 101 (0, 0))]
    (fun v L => v = .tuple #[.int .i64 (atV (firstF (keyP cs key))), .int .i64 (firstF (vacS cs) : Nat)] ∧ L = [pt pb (.cells (bsc pa po l off vf vo sd vt cs ad).toArray 101 (0, 0))]) := by
  refine fn_intro en93 Tryz.func93 rfl rfl rfl fun Fr w0 => t_nm ?_
  refine sr <| asg rfl rfl <| asg rfl rfl <| lz <| asg rfl rfl <| asg rfl rfl <| lc <| t_seq <| sr <| asg rfl rfl <| lc <| t_block ?_
  refine t_loop (fun k : Nat => k ≤ 8) (fun k => [(0, .pointer (some ⟨pb, 0, none⟩)), (1, .string key), (6, .int .i64 (atV (pf (keyP cs key) k))), (7, .int .i64 (pf (vacS cs) k : Nat)), (8, .int .i64 ((k : Nat) - 1))]) (fun _ => pt pb (.cells (bsc pa po l off vf vo sd vt cs ad).toArray 101 (0, 0)) :: Fr) (fun k => k) 8 (Nat.le_refl _) ⟨rfl, rfl, by rw [pf_8]; rfl, by rw [pf_8]; rfl, rfl, trivial⟩ (by (exact en)) ?_
  intro k hk
  refine t_seq <| sr <| mv rfl rfl <| l_q rfl (qi rfl rfl (b_geq ·)) <| lc <| t_if rfl (fun h => ?_) fun h => ?_
  · skip
    obtain ⟨j, rfl⟩ : ∃ j, k = j + 1 := ⟨k - 1, by omega⟩
    have hj : j < 8 := by omega
    rw [show (((j + 1 : Nat) : Int) - 1) = (j : Nat) by omega]
    refine t_skip <| n_code <| t_seq <| t_block <| t_seq <| sr <| mv rfl rfl <| mv rfl rfl <| l_q rfl (q_nilCheck rfl) <| l_q rfl (qfa 26 rfl yU101 rfl rfl yS99) <| l_q rfl (q_indexAddrA rfl rfl yU99 yS54 (by omega)) ?_
    refine l_q rfl (qfa 0 rfl yU54 rfl rfl yS3) <| l_q rfl (q_load rfl yA3 tk (bsc_get rfl hj (m := 0) rfl)) ?_
    refine l_q rfl (qi rfl rfl (b_eql ·)) <| mv rfl rfl <| l_pt (t := 21) rfl (fun h1 => ?_) fun h1 => ?_
    · refine l_on rfl rfl <| mv rfl rfl <| l_on rfl rfl <| mv rfl rfl <| l_on rfl rfl <| l_q rfl (q_nilCheck rfl) <| l_on rfl rfl <| l_q rfl (qfa 26 rfl yU101 rfl rfl yS99) <| l_on rfl rfl <| l_q rfl (q_indexAddrA rfl rfl yU99 yS54 (by omega)) ?_
      refine l_on rfl rfl <| l_q rfl (qfa 2 rfl yU54 rfl rfl yS9) <| l_on rfl rfl <| l_q rfl (q_load rfl yA9 tk (bsc_get rfl hj (m := 2) rfl)) ?_
      refine l_on rfl rfl <| mv rfl rfl <| l_on rfl rfl <| l_q rfl (qs rfl rfl (b_eqlS ·)) <| l_q rfl (q_pk rfl rfl) <| lc <| t_if rfl (fun h2 => ?_) fun h2 => ?_
      · refine t_region <| mv rfl rfl <| asg rfl rfl <| lz <| mv rfl rfl <| mv rfl rfl <| l_q rfl (q_nilCheck rfl) <| l_q rfl (qfa 26 rfl yU101 rfl rfl yS99) <| l_q rfl (q_indexAddrA rfl rfl yU99 yS54 (by omega)) ?_
        refine l_q rfl (qfa 0 rfl yU54 rfl rfl yS3) <| l_q rfl (q_load rfl yA3 tk (bsc_get rfl hj (m := 0) rfl)) ?_
        refine l_q rfl (qi rfl rfl (b_neq ·)) <| lc <| t_if rfl (fun h3 => ?_) fun h3 => ?_
        · exact absurd h1 h3
        · refine t_skip <| n_blk <| n_code <| t_region <| mv rfl rfl <| l_q rfl (qsub rfl rfl) ?_
          refine asg rfl rfl <| l_nil ?_
          have hkp := key_iff.2 ⟨h1, h2⟩
          have hvp : vacS cs j = false := by cases e : vacS cs j with | false => rfl | true => exact absurd h1 (vac_no.1 e)
          apply n_again (j)
          · exact (show j ≤ 8 by omega)
          · omega
          · exact ⟨rfl, rfl, by rw [pf_yes hj hkp, atV_lt hj]; rfl, by rw [pf_no hvp]; rfl, rfl, trivial⟩
          · exact en
      · refine t_skip <| nz <| mv rfl rfl <| mv rfl rfl <| l_q rfl (q_nilCheck rfl) <| l_q rfl (qfa 26 rfl yU101 rfl rfl yS99) <| l_q rfl (q_indexAddrA rfl rfl yU99 yS54 (by omega)) ?_
        refine l_q rfl (qfa 0 rfl yU54 rfl rfl yS3) <| l_q rfl (q_load rfl yA3 tk (bsc_get rfl hj (m := 0) rfl)) ?_
        refine l_q rfl (qi rfl rfl (b_neq ·)) <| lc <| t_if rfl (fun h3 => ?_) fun h3 => ?_
        · exact absurd h1 h3
        · refine t_skip <| n_blk <| n_code <| t_region <| mv rfl rfl <| l_q rfl (qsub rfl rfl) ?_
          refine asg rfl rfl <| l_nil ?_
          have hkp : keyP cs key j = false := by cases e : keyP cs key j with | false => rfl | true => exact absurd (key_iff.1 e).2 h2
          have hvp : vacS cs j = false := by cases e : vacS cs j with | false => rfl | true => exact absurd h1 (vac_no.1 e)
          apply n_again (j)
          · exact (show j ≤ 8 by omega)
          · omega
          · exact ⟨rfl, rfl, by rw [pf_no hkp]; rfl, by rw [pf_no hvp]; rfl, rfl, trivial⟩
          · exact en
    · refine l_off rfl rfl rfl rfl <| l_off rfl rfl rfl rfl <| l_off rfl rfl rfl rfl <| l_off rfl rfl rfl rfl <| l_off rfl rfl rfl rfl <| l_off rfl rfl rfl rfl <| l_off rfl rfl rfl rfl <| l_off rfl rfl rfl rfl <| l_off rfl rfl rfl rfl <| l_q rfl (q_pk rfl rfl) <| lc <| t_cond_f rfl <| t_skip <| nz <| mv rfl rfl <| mv rfl rfl <| l_q rfl (q_nilCheck rfl) <| l_q rfl (qfa 26 rfl yU101 rfl rfl yS99) <| l_q rfl (q_indexAddrA rfl rfl yU99 yS54 (by omega)) ?_
      refine l_q rfl (qfa 0 rfl yU54 rfl rfl yS3) <| l_q rfl (q_load rfl yA3 tk (bsc_get rfl hj (m := 0) rfl)) ?_
      refine l_q rfl (qi rfl rfl (b_neq ·)) <| lc <| t_if rfl (fun h3 => ?_) fun h3 => ?_
      · refine t_region <| mv rfl rfl <| asg rfl rfl <| l_nil <| n_blk <| n_code <| t_region <| mv rfl rfl <| l_q rfl (qsub rfl rfl) ?_
        refine asg rfl rfl <| l_nil ?_
        have hkp : keyP cs key j = false := by cases e : keyP cs key j with | false => rfl | true => exact absurd (key_iff.1 e).1 h1
        apply n_again (j)
        · exact (show j ≤ 8 by omega)
        · omega
        · exact ⟨rfl, rfl, by rw [pf_no hkp]; rfl, by rw [pf_yes hj (vac_no.2 h1)]; rfl, rfl, trivial⟩
        · exact en
      · exact (h3 h1).elim
  · obtain rfl : k = 0 := by omega
    rw [pf_0, pf_0]
    exact xt rfl <| nz <| mv rfl rfl <| mv rfl rfl <| asg rfl rfl <| asg rfl rfl <| lc <| rt <| fr2 rfl ([pt pb (.cells (bsc pa po l off vf vo sd vt cs ad).toArray 101 (0, 0))]) (.tmp rfl) (.tmp rfl) ⟨rfl, rfl⟩
include hGT
variable (s : ArS) (hP : SmP s off l S) (hS : SB (tgF m sd) S)
include hP hS
omit hS in
theorem turn_ok {kk pp nn : Int} (hS : SBH kk pp nn (tgF m sd) S) (had : ad ≤ 9223372036854775806) (kd kn ke : Int) : FnOk Tryz.prog 43 #[.pointer (some ⟨pb, 0, none⟩), .agg #[.int .i64 kd, .int .i64 kn, .int .i64 ke]] [pt pb (.cells (bsc pa po l off vf vo sd vt S.cells ad).toArray 101 (0, 0)), pt po (.cells #[.map (some bm)] 191 (0, 0)), mapH (fun k : ByteArray => Value.string k) bm m, G, arenaH pa s]
    (fun v L => ∃ s' S' ad', v = .bool true ∧ L = [pt pb (.cells (bsc pa po l off vf vo sd vt S'.cells ad').toArray 101 (0, 0)), pt po (.cells #[.map (some bm)] 191 (0, 0)), mapH (fun k : ByteArray => Value.string k) bm m, G, arenaH pa s'] ∧ SmP s' off l S' ∧ SBH kk pp nn (tgF m sd) S' ∧ ad' ≤ ad + 1 ∧ 2 * (ad' : Int) - S'.used ≤ 2 * (ad : Int) - S.used + 1 ∧ Lays s s') := by
  have hN := layN hl
  have hu := hS.used_le
  have hst := Lays.refl s
  refine fn_intro en43 Tryz.func43 rfl rfl rfl fun Fr w0 => t_nm ?_
  refine sr <| o_boxA rfl rfl fun b3 => asg rfl rfl <| lz <| mv rfl rfl <| l_q rfl (qfa 1 rfl yU103 rfl rfl yS3) <| l_q rfl (qld rfl yA3) ?_
  refine lc1 rfl rfl rfl (key_ok pb pa po bm off l vf vo vt sd m G hGO hm hsd hl S ad kn) ?_
  have hks : (textS (bits .and .i64 kn 15) (kN l)).size = kN l := textS_size _ _
  generalize textS (bits .and .i64 kn 15) (kN l) = key at hks ⊢
  have htl := tgF_lt m sd key
  have hf8 := firstF_le (keyP S.cells key)
  have hv8 := firstF_le (vacS S.cells)
  refine mv rfl rfl <| l_q rfl (q_extractL rfl ga) ?_
  refine l_q rfl (q_extractL rfl ga) ?_
  refine asg rfl rfl <| asg rfl rfl <| lz <| mv rfl rfl <| mv rfl rfl <| lc1 rfl rfl rfl (place_ok pb pa po off l vf vo vt sd ad S.cells key) ?_
  refine mv rfl rfl <| l_q rfl (q_extractL rfl ga) ?_
  refine l_q rfl (q_extractL rfl ga) ?_
  refine asg rfl rfl <| asg rfl rfl <| lc <| t_seq <| sr <| l_q rfl (qfa 0 rfl yU103 rfl rfl yS3) <| l_q rfl (qld rfl yA3) ?_
  refine lc <| t_block <| sr <| l_q rfl (qi rfl rfl (b_eql ·)) <| asg rfl rfl <| lc <| t_if rfl (fun p1 => ?_) fun p1 => ?_
  · refine t_seq <| t_draw mixed ?_
    apply dq 0 rfl
    · exact yq (qfa 2 rfl yU103 rfl rfl yS3)
    apply dq 1 rfl
    · exact yq (qld rfl yA3)
    apply dq 2 rfl
    · exact yq (q_move rfl)
    apply dq 3 rfl
    · exact yq (q_nilCheck rfl)
    apply dq 4 rfl
    · exact yq (qfa 1 rfl yU101 rfl rfl yS32)
    apply dq 5 rfl
    · exact yq (qfa 1 rfl yU32 rfl rfl yS3)
    apply dq 6 rfl
    · exact yq (qld rfl yA3)
    refine d_eff1 [1, 6, 0, 5, 4, 3, 2] [] 7 [(37, _), (42, _)] gO ⟨rfl, rfl, trivial⟩ (by kernel_rfl) (by kernel_rfl) fun Ex => ?_
    refine lc1 rfl rfl rfl (text11_okI ke _ (eN l) hN.e.symm (by have := Lay.bnd hl; have := hN.e; omega)) ?_
    have hes : (textS ke (eN l)).size = eN l := textS_size _ _
    generalize textS ke (eN l) = elem at hes ⊢
    refine l_nil ?_
    apply n_d
    · exact trivial
    refine d_eff1 [] [] 8 [(43, _)] gO ⟨rfl, trivial⟩ (by kernel_rfl) (by kernel_rfl) fun Ex => ?_
    refine asg rfl rfl <| l_nil ?_
    apply n_d
    · exact trivial
    refine d_end (by kernel_rfl) ?_
    refine n_code <| t_seq <| t_draw mixed ?_
    apply dq 0 rfl
    · exact yq (q_move rfl)
    apply dq 1 rfl
    · exact yq (q_nilCheck rfl)
    apply dq 2 rfl
    · exact yq (qfa 11 rfl yU101 rfl rfl yS98)
    apply dq 3 rfl
    · exact yq (qlda rfl yA98 yS98)
    apply dq 4 rfl
    · exact yq (q_move rfl)
    apply dq 5 rfl
    · exact yq (q_move rfl)
    apply dq 6 rfl
    · exact yq (q_move rfl)
    apply dq 7 rfl
    · exact yq (q_move rfl)
    apply dq 8 rfl
    · exact yq (q_nilCheck rfl)
    apply dq 9 rfl
    · exact yq (qfa 66 rfl yU101 rfl rfl yS3)
    apply dq 10 rfl
    · exact yq (qld rfl yA3)
    refine d_eff1 [3, 4, 5, 6, 10, 2, 9, 1, 8, 0, 7] [] 11 [(48, _), (49, _), (50, _), (51, _), (55, _)] gO ⟨rfl, rfl, rfl, rfl, rfl, trivial⟩ (by kernel_rfl) (by kernel_rfl) fun Ex => ?_
    refine lcf rfl rfl rfl (SPut_ok G hGT pa off s l S hP (tgF m sd key) htl key hks elem hes (ad : Nat) (by omega) (by omega)) ?_
    rintro v L' ⟨s', rfl, rfl, hP', hst⟩
    refine l_nm ?_
    rcases hS.put key elem ((ad : Nat) : Int) with ⟨q, e0, b0, hc, hp, hS'⟩ | ⟨q1, q2, hp⟩ | ⟨q1, q2, hp, hS'⟩
    · rw [hp] at hP' ⊢
      rw [atV_lt q]
      dsimp only at hP' hS' ⊢
      refine l_nm ?_
      refine l_nil ?_
      apply n_d
      · exact trivial
      apply dq 12 rfl
      · exact yq (q_move rfl)
      apply dq 13 rfl
      · exact yq (q_extractL rfl ga)
      apply dq 14 rfl
      · exact yq (q_extractL rfl ga)
      refine d_eff1 [13, 12] [14] 15 [(57, _)] gO ⟨rfl, trivial⟩ (by kernel_rfl) (by kernel_rfl) fun Ex => ?_
      refine asg rfl rfl <| l_nil ?_
      apply n_d
      · refine ⟨?_, trivial⟩
        · apply ya rfl rfl; exact yq (q_extractL rfl ga)
      refine d_eff1 [14] [] 16 [(58, _)] gO ⟨rfl, trivial⟩ (by kernel_rfl) (by kernel_rfl) fun Ex => ?_
      refine asg rfl rfl <| l_nil ?_
      apply n_d
      · exact trivial
      refine d_end (by kernel_rfl) ?_
      refine n_code <| t_seq <| sr <| mv rfl rfl <| lc1 rfl rfl rfl (num11_ok _) ?_
      refine l_q rfl (qi rfl rfl (b_neq ·)) <| lc <| t_if rfl (fun p2 => ?_) fun p2 => ?_
      · exact absurd rfl p2
      · refine t_skip <| n_code <| t_seq <| sr <| mv rfl rfl <| l_q rfl (qi rfl rfl (b_geq ·)) <| lc <| t_if rfl (fun p3 => ?_) fun p3 => ?_
        · refine sr <| mv rfl rfl <| mv rfl rfl <| mv rfl rfl <| l_q rfl (q_nilCheck rfl) <| l_q rfl (qfa 26 rfl yU101 rfl rfl yS99) <| l_q rfl (q_indexAddrA rfl rfl yU99 yS54 (by omega)) ?_
          refine l_q rfl (qfa 3 rfl yU54 rfl rfl yS9) ?_
          apply o_store rfl rfl rfl yS9 rfl
          · exact tk
          · exact bsc_in (n := 4) rfl q (by decide)
          · exact bsc_elem rfl q hc
          refine lz <| mv rfl rfl <| l_q rfl (qi rfl rfl (b_eql ·)) <| asg rfl rfl <| lc <| rt <| fr1 rfl ([pt pb (.cells (bsc pa po l off vf vo sd vt (updC S.cells (firstF (keyP S.cells key)) (.full (tgF m sd key : Nat) key elem b0)) ad).toArray 101 (0, 0)), pt po (.cells #[.map (some bm)] 191 (0, 0)), mapH (fun k : ByteArray => Value.string k) bm m, G, arenaH pa s']) (.tmp rfl) ?_
          exact ⟨s', _, ad, rfl, rfl, hP', hS', Nat.le_succ _, (by (try dsimp only); omega), hst⟩
        · omega
    · rw [hp] at hP' ⊢
      rw [q1, q2]
      dsimp only at hP' ⊢
      refine l_nm ?_
      refine l_nil ?_
      apply n_d
      · exact trivial
      apply dq 12 rfl
      · exact yq (q_move rfl)
      apply dq 13 rfl
      · exact yq (q_extractL rfl ga)
      apply dq 14 rfl
      · exact yq (q_extractL rfl ga)
      refine d_eff1 [13, 12] [14] 15 [(57, _)] gO ⟨rfl, trivial⟩ (by kernel_rfl) (by kernel_rfl) fun Ex => ?_
      refine asg rfl rfl <| l_nil ?_
      apply n_d
      · refine ⟨?_, trivial⟩
        · apply ya rfl rfl; exact yq (q_extractL rfl ga)
      refine d_eff1 [14] [] 16 [(58, _)] gO ⟨rfl, trivial⟩ (by kernel_rfl) (by kernel_rfl) fun Ex => ?_
      refine asg rfl rfl <| l_nil ?_
      apply n_d
      · exact trivial
      refine d_end (by kernel_rfl) ?_
      refine n_code <| t_seq <| sr <| mv rfl rfl <| lc1 rfl rfl rfl (num11_ok _) ?_
      refine l_q rfl (qi rfl rfl (b_neq ·)) <| lc <| t_if rfl (fun p2 => ?_) fun p2 => ?_
      · exact absurd rfl p2
      · refine t_skip <| n_code <| t_seq <| sr <| mv rfl rfl <| l_q rfl (qi rfl rfl (b_geq ·)) <| lc <| t_if rfl (fun p3 => ?_) fun p3 => ?_
        · exact absurd p3 (by decide)
        · refine t_skip <| n_code <| t_seq <| sr <| mv rfl rfl <| l_q rfl (qi rfl rfl (b_eql ·)) <| lc <| t_if rfl (fun p4 => ?_) fun p4 => ?_
          · refine sr <| mv rfl rfl <| l_q rfl (qi rfl rfl (b_eql ·)) <| asg rfl rfl <| lc <| rt <| fr1 rfl ([pt pb (.cells (bsc pa po l off vf vo sd vt S.cells ad).toArray 101 (0, 0)), pt po (.cells #[.map (some bm)] 191 (0, 0)), mapH (fun k : ByteArray => Value.string k) bm m, G, arenaH pa s']) (.tmp rfl) ?_
            exact ⟨s', S, ad, rfl, rfl, hP', hS, Nat.le_succ _, (by (try dsimp only); omega), hst⟩
          · exact absurd rfl p4
    · rw [hp] at hP' ⊢
      rw [q1]
      dsimp only at hP' hS' ⊢
      refine l_nm ?_
      refine l_nil ?_
      apply n_d
      · exact trivial
      apply dq 12 rfl
      · exact yq (q_move rfl)
      apply dq 13 rfl
      · exact yq (q_extractL rfl ga)
      apply dq 14 rfl
      · exact yq (q_extractL rfl ga)
      refine d_eff1 [13, 12] [14] 15 [(57, _)] gO ⟨rfl, trivial⟩ (by kernel_rfl) (by kernel_rfl) fun Ex => ?_
      refine asg rfl rfl <| l_nil ?_
      apply n_d
      · refine ⟨?_, trivial⟩
        · apply ya rfl rfl; exact yq (q_extractL rfl ga)
      refine d_eff1 [14] [] 16 [(58, _)] gO ⟨rfl, trivial⟩ (by kernel_rfl) (by kernel_rfl) fun Ex => ?_
      refine asg rfl rfl <| l_nil ?_
      apply n_d
      · exact trivial
      refine d_end (by kernel_rfl) ?_
      refine n_code <| t_seq <| sr <| mv rfl rfl <| lc1 rfl rfl rfl (num11_ok _) ?_
      refine l_q rfl (qi rfl rfl (b_neq ·)) <| lc <| t_if rfl (fun p2 => ?_) fun p2 => ?_
      · exact absurd rfl p2
      · refine t_skip <| n_code <| t_seq <| sr <| mv rfl rfl <| l_q rfl (qi rfl rfl (b_geq ·)) <| lc <| t_if rfl (fun p3 => ?_) fun p3 => ?_
        · exact absurd p3 (by decide)
        · refine t_skip <| n_code <| t_seq <| sr <| mv rfl rfl <| l_q rfl (qi rfl rfl (b_eql ·)) <| lc <| t_if rfl (fun p4 => ?_) fun p4 => ?_
          · omega
          · refine t_skip <| n_code <| t_seq <| t_draw mixed ?_
            apply dq 0 rfl
            · exact yq (q_move rfl)
            apply dq 1 rfl
            · exact yq (q_move rfl)
            apply dq 2 rfl
            · exact yq (q_move rfl)
            apply dq 3 rfl
            · exact yq (q_move rfl)
            apply dq 4 rfl
            · exact yq (q_move rfl)
            apply dq 5 rfl
            · exact yq (q_move rfl)
            apply dq 6 rfl
            · exact yq (q_nilCheck rfl)
            apply dq 7 rfl
            · exact yq (qfa 66 rfl yU101 rfl rfl yS3)
            apply dq 8 rfl
            · exact yq (qld rfl yA3)
            apply dq 9 rfl
            · apply yq
              apply q_buildS rfl yP54 yZ54
              · apply FillR.one
                · repeat (first | exact PlAt.here | apply PlAt.there)
                · rfl
                · exact sa
                apply FillR.one
                · repeat (first | exact PlAt.here | apply PlAt.there)
                · rfl
                · exact sa
                apply FillR.one
                · repeat (first | exact PlAt.here | apply PlAt.there)
                · rfl
                · exact sa
                apply FillR.one
                · repeat (first | exact PlAt.here | apply PlAt.there)
                · rfl
                · exact sa
                apply FillR.one
                · repeat (first | exact PlAt.here | apply PlAt.there)
                · rfl
                · exact sa
                exact FillR.nil
            apply dq 10 rfl
            · exact yq (q_nilCheck rfl)
            apply dq 11 rfl
            · exact yq (qfa 26 rfl yU101 rfl rfl yS99)
            apply dq 12 rfl
            · exact yq (q_indexAddrA rfl rfl yU99 yS54 (by omega))
            refine d_eff1 [12, 9, 0, 1, 2, 3, 4, 5, 6, 7, 8, 11, 10] [] 13 [(89, _), (86, _)] gO ⟨rfl, rfl, trivial⟩ (by kernel_rfl) (by kernel_rfl) fun Ex => ?_
            apply o_storeAgg rfl rfl rfl yS54 rfl rfl
            · exact tk
            · exact bsc_in rfl q2 (Nat.le_refl _)
            · exact bsc_put rfl q2 (.full (tgF m sd key : Nat) key elem (ad : Nat))
            refine l_nil ?_
            apply n_d
            · exact trivial
            refine d_end (by kernel_rfl) ?_
            refine nz <| mv rfl rfl <| l_q rfl (q_nilCheck rfl) <| l_q rfl (qfa 66 rfl yU101 rfl rfl yS3) <| l_q rfl (qld rfl yA3) ?_
            refine l_q rfl (qadd rfl rfl) ?_
            refine l_q rfl (q_nilCheck rfl) <| l_q rfl (qfa 66 rfl yU101 rfl rfl yS3) ?_
            apply o_store rfl rfl rfl yS3 rfl
            · exact tk
            · rfl
            · exact bsc_add
            refine lz <| mv rfl rfl <| l_q rfl (qi rfl rfl (b_eql ·)) <| asg rfl rfl <| lc <| rt <| fr1 rfl ([pt pb (.cells (bsc pa po l off vf vo sd vt (updC S.cells (firstF (vacS S.cells)) (.full (tgF m sd key : Nat) key elem (ad : Nat))) (ad + 1)).toArray 101 (0, 0)), pt po (.cells #[.map (some bm)] 191 (0, 0)), mapH (fun k : ByteArray => Value.string k) bm m, G, arenaH pa s']) (.tmp rfl) ?_
            exact ⟨s', _, ad + 1, rfl, rfl, hP', hS', Nat.le_refl _, (by (try dsimp only); omega), hst⟩
  · refine sr <| l_q rfl (qi rfl rfl (b_eql ·)) <| asg rfl rfl <| lc <| t_if rfl (fun p5 => ?_) fun p5 => ?_
    · refine sr <| mv rfl rfl <| l_q rfl (q_nilCheck rfl) <| l_q rfl (qfa 11 rfl yU101 rfl rfl yS98) <| l_q rfl (qlda rfl yA98 yS98) ?_
      refine mv rfl rfl <| mv rfl rfl <| lcf rfl rfl rfl (SDelete_ok G hGT pa off s l S hP (tgF m sd key) htl key hks (by omega)) ?_
      rintro v L' ⟨s', rfl, rfl, hP', hst⟩
      refine l_nm ?_
      rcases hS.del key with ⟨q, hp, hS'⟩ | ⟨q1, hp⟩
      · rw [hp] at hP' ⊢
        rw [atV_lt q]
        dsimp only at hP' hS' ⊢
        refine l_nm ?_
        refine mv rfl rfl <| l_q rfl (q_extractL rfl ga) ?_
        refine l_q rfl (q_extractL rfl ga) ?_
        refine asg rfl rfl <| asg rfl rfl <| lc <| t_seq <| sr <| mv rfl rfl <| l_q rfl (qi rfl rfl (b_geq ·)) <| lc <| t_if rfl (fun p6 => ?_) fun p6 => ?_
        · refine t_region <| mv rfl rfl <| mv rfl rfl ?_
          apply l_q rfl
          · apply q_buildS rfl yP54 yZ54
            · exact FillR.nil
          refine l_q rfl (q_nilCheck rfl) <| l_q rfl (qfa 26 rfl yU101 rfl rfl yS99) <| l_q rfl (q_indexAddrA rfl rfl yU99 yS54 (by omega)) ?_
          apply o_storeAgg rfl rfl rfl yS54 rfl rfl
          · exact tk
          · exact bsc_in rfl q (Nat.le_refl _)
          · exact bsc_put rfl q .empty
          refine lz <| mv rfl rfl <| lc1 rfl rfl rfl (num11_ok _) ?_
          refine l_q rfl (qi rfl rfl (b_eql ·)) <| mv rfl rfl <| l_pt (t := 122) rfl (fun z => ?_) fun z => ?_
          · refine l_on rfl rfl <| mv rfl rfl <| l_on rfl rfl <| mv rfl rfl <| l_on rfl rfl <| l_q rfl (qi rfl rfl (b_geq ·)) <| l_on rfl rfl <| l_q rfl (qb rfl rfl (b_eqlB · yU4)) <| l_q rfl (q_pk rfl rfl) <| asg rfl rfl <| lc <| rt <| fr1 rfl ([pt pb (.cells (bsc pa po l off vf vo sd vt (updC S.cells (firstF (keyP S.cells key)) .empty) ad).toArray 101 (0, 0)), pt po (.cells #[.map (some bm)] 191 (0, 0)), mapH (fun k : ByteArray => Value.string k) bm m, G, arenaH pa s']) (.tmp rfl) ?_
            exact ⟨s', _, ad, by simp, rfl, hP', hS', Nat.le_succ _, (by (try dsimp only); omega), hst⟩
          · exact absurd rfl z
        · omega
      · rw [hp] at hP' ⊢
        rw [q1]
        dsimp only at hP' ⊢
        refine l_nm ?_
        refine mv rfl rfl <| l_q rfl (q_extractL rfl ga) ?_
        refine l_q rfl (q_extractL rfl ga) ?_
        refine asg rfl rfl <| asg rfl rfl <| lc <| t_seq <| sr <| mv rfl rfl <| l_q rfl (qi rfl rfl (b_geq ·)) <| lc <| t_if rfl (fun p6 => ?_) fun p6 => ?_
        · exact absurd p6 (by decide)
        · refine t_skip <| nz <| mv rfl rfl <| lc1 rfl rfl rfl (num11_ok _) ?_
          refine l_q rfl (qi rfl rfl (b_eql ·)) <| mv rfl rfl <| l_pt (t := 122) rfl (fun z => ?_) fun z => ?_
          · refine l_on rfl rfl <| mv rfl rfl <| l_on rfl rfl <| mv rfl rfl <| l_on rfl rfl <| l_q rfl (qi rfl rfl (b_geq ·)) <| l_on rfl rfl <| l_q rfl (qb rfl rfl (b_eqlB · yU4)) <| l_q rfl (q_pk rfl rfl) <| asg rfl rfl <| lc <| rt <| fr1 rfl ([pt pb (.cells (bsc pa po l off vf vo sd vt S.cells ad).toArray 101 (0, 0)), pt po (.cells #[.map (some bm)] 191 (0, 0)), mapH (fun k : ByteArray => Value.string k) bm m, G, arenaH pa s']) (.tmp rfl) ?_
            exact ⟨s', S, ad, by simp [atV], rfl, hP', hS, Nat.le_succ _, (by (try dsimp only); omega), hst⟩
          · exact absurd rfl z
    · refine sr <| l_q rfl (qi rfl rfl (b_eql ·)) <| asg rfl rfl <| lc <| t_if rfl (fun p7 => ?_) fun p7 => ?_
      · refine sr <| mv rfl rfl <| l_q rfl (q_nilCheck rfl) <| l_q rfl (qfa 11 rfl yU101 rfl rfl yS98) <| l_q rfl (qlda rfl yA98 yS98) ?_
        refine mv rfl rfl <| mv rfl rfl <| lc1 rfl rfl rfl (SFind_ok G hGT pa off s l S hP (tgF m sd key) htl key hks) ?_
        refine mv rfl rfl <| l_q rfl (q_extractL rfl ga) ?_
        refine l_q rfl (q_extractL rfl ga) ?_
        refine asg rfl rfl <| asg rfl rfl <| lz <| mv rfl rfl <| l_q rfl (q_nilCheck rfl) <| l_q rfl (qfa 11 rfl yU101 rfl rfl yS98) <| l_q rfl (qlda rfl yA98 yS98) ?_
        refine mv rfl rfl <| mv rfl rfl <| lc1 rfl rfl rfl (SGet_ok G hGT pa off s l S hP (tgF m sd key) htl key hks) ?_
        rw [hS.atI, hS.get]
        rcases Nat.lt_or_ge (firstF (keyP S.cells key)) 8 with q | q
        · rw [if_pos q, atV_lt q]
          refine l_nm ?_
          refine mv rfl rfl <| l_q rfl (q_extractL rfl ga) ?_
          refine l_q rfl (q_extractL rfl ga) ?_
          refine o_allocA rfl yZ54 fun b16 => sta rfl rfl rfl yS54 rfl rfl ?_
          refine asg rfl rfl <| lz ?_
          apply l_q rfl
          · apply q_buildS rfl yP54 yZ54
            · exact FillR.nil
          refine o_allocA rfl yZ54 fun b18 => sta rfl rfl rfl yS54 rfl rfl ?_
          refine lc <| t_seq <| sr <| mv rfl rfl <| l_q rfl (qi rfl rfl (b_geq ·)) <| lc <| t_if rfl (fun p8 => ?_) fun p8 => ?_
          · refine t_region <| mv rfl rfl <| mv rfl rfl <| l_q rfl (q_nilCheck rfl) <| l_q rfl (qfa 26 rfl yU101 rfl rfl yS99) <| l_q rfl (q_indexAddrA rfl rfl yU99 yS54 (by omega)) ?_
            apply l_q rfl
            · apply q_loadAgg rfl yA54 yS54
              · exact tk
              · exact bsc_in rfl q (Nat.le_refl _)
              · exact bsc_part rfl q
            refine sta rfl rfl rfl yS54 rfl rfl ?_
            refine lz <| mv rfl rfl <| lc1 rfl rfl rfl (num11_ok _) ?_
            refine l_q rfl (qi rfl rfl (b_eql ·)) <| mv rfl rfl <| l_pt (t := 162) rfl (fun z => ?_) fun z => ?_
            · refine l_on rfl rfl <| mv rfl rfl <| l_on rfl rfl <| lc1 rfl rfl rfl (num11_ok _) ?_
              refine l_on rfl rfl <| l_q rfl (qi rfl rfl (b_eql ·)) <| l_q rfl (q_pk rfl rfl) <| mv rfl rfl <| l_pt (t := 167) rfl (fun z2 => ?_) fun z2 => ?_
              · refine l_on rfl rfl <| mv rfl rfl <| l_on rfl rfl <| mv rfl rfl <| l_on rfl rfl <| l_q rfl (qi rfl rfl (b_eql ·)) <| l_q rfl (q_pk rfl rfl) <| mv rfl rfl <| l_pt (t := 172) rfl (fun z3 => ?_) fun z3 => ?_
                · refine l_on rfl rfl <| l_q rfl (qlda rfl yA54 yS54) ?_
                  refine l_on rfl rfl <| l_q rfl (qlda rfl yA54 yS54) ?_
                  refine l_on rfl rfl <| l_q rfl (q_bin rfl rfl (g_flat · yG54) fun w => b_eqlFlat w yU54 yH54 (by kernel_rfl) (by kernel_rfl)) ?_
                  refine l_q rfl (q_pk rfl rfl) <| asg rfl rfl <| lc <| rt <| fr1 rfl ([pt pb (.cells (bsc pa po l off vf vo sd vt S.cells ad).toArray 101 (0, 0)), pt po (.cells #[.map (some bm)] 191 (0, 0)), mapH (fun k : ByteArray => Value.string k) bm m, G, arenaH pa s]) (.tmp rfl) ?_
                  exact ⟨s, S, ad, by simp, rfl, hP, hS, Nat.le_succ _, (by (try dsimp only); omega), hst⟩
                · exact absurd rfl z3
              · exact absurd rfl z2
            · exact absurd rfl z
          · omega
        · rw [if_neg (by omega), show firstF (keyP S.cells key) = 8 by omega]
          refine l_nm ?_
          refine mv rfl rfl <| l_q rfl (q_extractL rfl ga) ?_
          refine l_q rfl (q_extractL rfl ga) ?_
          refine o_allocA rfl yZ54 fun b16 => sta rfl rfl rfl yS54 rfl rfl ?_
          refine asg rfl rfl <| lz ?_
          apply l_q rfl
          · apply q_buildS rfl yP54 yZ54
            · exact FillR.nil
          refine o_allocA rfl yZ54 fun b18 => sta rfl rfl rfl yS54 rfl rfl ?_
          refine lc <| t_seq <| sr <| mv rfl rfl <| l_q rfl (qi rfl rfl (b_geq ·)) <| lc <| t_if rfl (fun p8 => ?_) fun p8 => ?_
          · exact absurd p8 (by decide)
          · refine t_skip <| nz <| mv rfl rfl <| lc1 rfl rfl rfl (num11_ok _) ?_
            refine l_q rfl (qi rfl rfl (b_eql ·)) <| mv rfl rfl <| l_pt (t := 162) rfl (fun z => ?_) fun z => ?_
            · refine l_on rfl rfl <| mv rfl rfl <| l_on rfl rfl <| lc1 rfl rfl rfl (num11_ok _) ?_
              refine l_on rfl rfl <| l_q rfl (qi rfl rfl (b_eql ·)) <| l_q rfl (q_pk rfl rfl) <| mv rfl rfl <| l_pt (t := 167) rfl (fun z2 => ?_) fun z2 => ?_
              · refine l_on rfl rfl <| mv rfl rfl <| l_on rfl rfl <| mv rfl rfl <| l_on rfl rfl <| l_q rfl (qi rfl rfl (b_eql ·)) <| l_q rfl (q_pk rfl rfl) <| mv rfl rfl <| l_pt (t := 172) rfl (fun z3 => ?_) fun z3 => ?_
                · refine l_on rfl rfl <| l_q rfl (qlda rfl yA54 yS54) ?_
                  refine l_on rfl rfl <| l_q rfl (qlda rfl yA54 yS54) ?_
                  refine l_on rfl rfl <| l_q rfl (q_bin rfl rfl (g_flat · yG54) fun w => b_eqlFlat w yU54 yH54 (by kernel_rfl) (by kernel_rfl)) ?_
                  refine l_q rfl (q_pk rfl rfl) <| asg rfl rfl <| lc <| rt <| fr1 rfl ([pt pb (.cells (bsc pa po l off vf vo sd vt S.cells ad).toArray 101 (0, 0)), pt po (.cells #[.map (some bm)] 191 (0, 0)), mapH (fun k : ByteArray => Value.string k) bm m, G, arenaH pa s]) (.tmp rfl) ?_
                  exact ⟨s, S, ad, by simp [Cell.kind, Cell.tagI, Cell.keyS, Cell.elemS, Cell.birthI], rfl, hP, hS, Nat.le_succ _, (by (try dsimp only); omega), hst⟩
                · exact absurd rfl z3
              · exact absurd rfl z2
            · exact absurd rfl z
      · refine t_skip <| n_blk <| nz <| asg rfl rfl <| lc <| rt <| fr1 rfl ([pt pb (.cells (bsc pa po l off vf vo sd vt S.cells ad).toArray 101 (0, 0)), pt po (.cells #[.map (some bm)] 191 (0, 0)), mapH (fun k : ByteArray => Value.string k) bm m, G, arenaH pa s]) (.tmp rfl) ?_
        exact ⟨s, S, ad, rfl, rfl, hP, hS, Nat.le_succ _, (by (try dsimp only); omega), hst⟩
end
end Go.Proofs.YtgijnebgchkenaaGreatDoor.BenchS
