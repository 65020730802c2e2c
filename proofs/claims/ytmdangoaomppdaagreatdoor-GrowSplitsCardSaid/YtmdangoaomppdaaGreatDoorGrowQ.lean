/- holds of a table and its two halves; GrowSplits answers true. -/
import Derived.Test.YtmdangoaomppdaaGreatDoorGrowS
import Derived.Test.YtmdangoaomppdaaGreatDoorGrowP
set_option linter.unusedVariables false
set_option linter.unusedSimpArgs false
set_option maxRecDepth 100000
namespace Go.Proofs.YtmdangoaomppdaaGreatDoor.Grow
open Go.RowKit Go.Proofs Go.Proofs.YtmdangoaomppdaaGreatDoor.Eng Go.Proofs.YtmdangoaomppdaaGreatDoor.Ty Go.Proofs.YtmdangoaomppdaaGreatDoor.Bits Go.Proofs.YtmdangoaomppdaaGreatDoor.Mem Go.Proofs.YtmdangoaomppdaaGreatDoor.Search Go.Proofs.YtmdangoaomppdaaGreatDoor.Arena Go.Proofs.YtmdangoaomppdaaGreatDoor.CtrlB Go.Proofs.YtmdangoaomppdaaGreatDoor.Ctrl Go.Proofs.YtmdangoaomppdaaGreatDoor.Layout Go.Proofs.YtmdangoaomppdaaGreatDoor.GroupB Go.Proofs.YtmdangoaomppdaaGreatDoor.Group Go.Proofs.YtmdangoaomppdaaGreatDoor.Probe Go.Proofs.YtmdangoaomppdaaGreatDoor.TableB Go.Proofs.YtmdangoaomppdaaGreatDoor.TableI Go.Proofs.YtmdangoaomppdaaGreatDoor.Table Go.Proofs.YtmdangoaomppdaaGreatDoor.Bench Go.Proofs.YtmdangoaomppdaaGreatDoor.Cells Go.Proofs.YtmdangoaomppdaaGreatDoor.Refill Go.Proofs.YtmdangoaomppdaaGreatDoor.Oracle Go.Proofs.YtmdangoaomppdaaGreatDoor.Ref03

theorem kind_zero {c : Cell} : c.kind = 0 ↔ c = .empty := by cases c <;> simp [Cell.kind]
/-- holds, of a table and its two halves. -/
theorem holds2_ok (G : HP) (hGT : TabOk G) (hGO : OddOk G) (pa po bm off n e : Nat) (s : ArS) (T : Tb) (m : List (ByteArray × Value)) (hm : OverOk m) (seed : Int) (hsd : 0 ≤ seed ∧ seed < 18446744073709551616) (size depth : Int) (vh vs : Value) (wo : Int) (hP : TabP s off (off + 64) l64 n e T) (hT : LT n (hashF m seed) T) (o1 o2 : Nat) (hne : o1 ≠ o2) (d d0 : Int) (U1 U2 : Tb) (L1 L2 : List Life) (hP1 : TabP s o1 (o1 + 64) l64 n e U1) (hP2 : TabP s o2 (o2 + 64) l64 n e U2) (hS1 : SS (hashF m seed) d d0 T.cells (8 * n) n 0 U1 L1 (8 * n)) (hS2 : SS (hashF m seed) d d0 T.cells (8 * n) n 1 U2 L2 (8 * n)) :
    FnOk Tryz.prog 16 #[.agg #[.pointer (some ⟨pa, 0, none⟩), .pointer (some ⟨po, 0, none⟩), .pointer (some ⟨pa, 0, none⟩), .int .i64 l64.key, .int .i64 l64.elem, .int .i64 l64.ka, .int .i64 l64.ea, .int .i64 l64.cap, .int .i64 l64.eo, .int .i64 l64.bo, .int .i64 l64.slot, .int .i64 l64.group, .int .i64 wo], .agg #[.int .u64 seed, .int .i64 size, .int .i64 depth, vh, vs], .agg #[.pointer (some ⟨pa, 0, none⟩), .int .i64 l64.key, .int .i64 l64.elem, .int .i64 l64.ka, .int .i64 l64.ea, .int .i64 l64.cap, .int .i64 l64.eo, .int .i64 l64.bo, .int .i64 l64.slot, .int .i64 l64.group, .int .i64 (off : Nat)], .agg #[.pointer (some ⟨pa, 0, none⟩), .int .i64 l64.key, .int .i64 l64.elem, .int .i64 l64.ka, .int .i64 l64.ea, .int .i64 l64.cap, .int .i64 l64.eo, .int .i64 l64.bo, .int .i64 l64.slot, .int .i64 l64.group, .int .i64 (o1 : Nat)], .agg #[.pointer (some ⟨pa, 0, none⟩), .int .i64 l64.key, .int .i64 l64.elem, .int .i64 l64.ka, .int .i64 l64.ea, .int .i64 l64.cap, .int .i64 l64.eo, .int .i64 l64.bo, .int .i64 l64.slot, .int .i64 l64.group, .int .i64 (o2 : Nat)]] [pt po (.cells #[.map (some bm)] 151 (0, 0)), mapH (fun k : ByteArray => Value.string k) bm m, G, arenaH pa s] (fun v L => v = .bool true ∧ L = [pt po (.cells #[.map (some bm)] 151 (0, 0)), mapH (fun k : ByteArray => Value.string k) bm m, G, arenaH pa s]) := by
  have hn8 := hP.n0
  have hcount := lt_count hT hn8.1
  have hsc := side_cnt (H := hashF m seed) (d := d) (cs := T.cells) (8 * n)
  obtain ⟨hu, _, _, _⟩ := hS1.rf.counts
  obtain ⟨hv, _, _, _⟩ := hS2.rf.counts
  have hfull := cnt_le isFull T.cells (8 * n)
  refine fn_intro en16 Tryz.func16 rfl rfl rfl fun Fr w0 => t_nm ?_
  refine sr <| o_boxA rfl rfl fun b5 => o_boxA rfl rfl fun b6 => o_boxA rfl rfl fun b7 => o_boxA rfl rfl fun b8 => o_boxA rfl rfl fun b9 => asg rfl rfl <| lz <| asg rfl rfl <| lc <| t_seq <| sr <| asg rfl rfl <| lc <| t_block ?_
  refine t_loop (fun i : Nat => i ≤ 62) (fun i => [(5, .pointer (some ⟨b5, 0, none⟩)), (6, .pointer (some ⟨b6, 0, none⟩)), (7, .pointer (some ⟨b7, 0, none⟩)), (8, .pointer (some ⟨b8, 0, none⟩)), (9, .pointer (some ⟨b9, 0, none⟩)), (11, .int .i64 (cnt isFull (tellC n (hashF m seed) T) i : Nat)), (12, .int .i64 (i : Nat))]) (fun _ => pt b9 (.cells #[.pointer (some ⟨pa, 0, none⟩), .int .i64 l64.key, .int .i64 l64.elem, .int .i64 l64.ka, .int .i64 l64.ea, .int .i64 l64.cap, .int .i64 l64.eo, .int .i64 l64.bo, .int .i64 l64.slot, .int .i64 l64.group, .int .i64 (o2 : Nat)] 32 (0, 0)) :: pt b8 (.cells #[.pointer (some ⟨pa, 0, none⟩), .int .i64 l64.key, .int .i64 l64.elem, .int .i64 l64.ka, .int .i64 l64.ea, .int .i64 l64.cap, .int .i64 l64.eo, .int .i64 l64.bo, .int .i64 l64.slot, .int .i64 l64.group, .int .i64 (o1 : Nat)] 32 (0, 0)) :: pt b7 (.cells #[.pointer (some ⟨pa, 0, none⟩), .int .i64 l64.key, .int .i64 l64.elem, .int .i64 l64.ka, .int .i64 l64.ea, .int .i64 l64.cap, .int .i64 l64.eo, .int .i64 l64.bo, .int .i64 l64.slot, .int .i64 l64.group, .int .i64 (off : Nat)] 32 (0, 0)) :: pt b6 (.cells #[.int .u64 seed, .int .i64 size, .int .i64 depth, vh, vs] 26 (0, 0)) :: pt b5 (.cells #[.pointer (some ⟨pa, 0, none⟩), .pointer (some ⟨po, 0, none⟩), .pointer (some ⟨pa, 0, none⟩), .int .i64 l64.key, .int .i64 l64.elem, .int .i64 l64.ka, .int .i64 l64.ea, .int .i64 l64.cap, .int .i64 l64.eo, .int .i64 l64.bo, .int .i64 l64.slot, .int .i64 l64.group, .int .i64 wo] 34 (0, 0)) :: pt po (.cells #[.map (some bm)] 151 (0, 0)) :: mapH (fun k : ByteArray => Value.string k) bm m :: G :: arenaH pa s :: Fr) (fun i => 62 - i) 0 (Nat.zero_le _) ⟨rfl, rfl, rfl, rfl, rfl, rfl, rfl, trivial⟩ (by (exact en)) ?_
  intro i hi
  refine t_seq <| sr <| mv rfl rfl <| l_q rfl (qi rfl rfl (b_lss ·)) <| lc <| t_if rfl (fun h1 => ?_) fun h1 => ?_
  · skip
    have hks := letter_size (i := i) (by omega)
    have hhb := hashF_bnd hm seed (letter i)
    have hcs := cnt_succ isFull (tellC n (hashF m seed) T) i
    have hci := cnt_le isFull (tellC n (hashF m seed) T) i
    obtain ⟨C, hC⟩ : ∃ C, C = getC n T (hashF m seed (letter i)) (letter i) := ⟨_, rfl⟩
    rw [show tellC n (hashF m seed) T i = C from hC.symm] at hcs
    obtain ⟨D, hD⟩ : ∃ D, D = getC n U1 (hashF m seed (letter i)) (letter i) := ⟨_, rfl⟩
    obtain ⟨X, hX⟩ : ∃ X, X = getC n U2 (hashF m seed (letter i)) (letter i) := ⟨_, rfl⟩
    have hDX : (D = C ∧ X = .empty) ∨ (D = .empty ∧ X = C) := by
      rw [side_get hT hn8.1 hS1.rf (letter i), ← hC] at hD
      rw [side_get hT hn8.1 hS2.rf (letter i), ← hC] at hX
      rcases bitF_two (hashF m seed (letter i)) d with q | q
      · rw [if_pos q] at hD; rw [if_neg (by omega)] at hX; exact .inl ⟨hD, hX⟩
      · rw [if_neg (by omega)] at hD; rw [if_pos q] at hX; exact .inr ⟨hD, hX⟩
    refine t_skip <| n_code <| t_seq <| t_block <| sr <| mv rfl rfl <| mv rfl rfl <| l_q rfl (qadd rfl rfl) ?_
    apply l_q rfl
    · refine QV.to (v' := .string (letter i)) (q_sliceS_lh (s := letters) rfl rfl rfl Tryz.underlying9 ⟨by omega, by omega, by show _ ≤ (62 : Int); omega⟩) (by rw [show ((i : Int) + 1).toNat = i + 1 by omega, Int.toNat_natCast]; rfl)
    refine asg rfl rfl <| lz <| l_q rfl (qfa 1 rfl yU34 rfl rfl yS28) <| l_q rfl (qld rfl yA28) ?_
    refine l_q rfl (qfa 0 rfl yU26 rfl rfl yS22) <| l_q rfl (qld rfl yA22) ?_
    refine mv rfl rfl <| lc1 rfl rfl rfl (Hash_ok G hGO po bm _ hm seed hsd (letter i) (by omega)) ?_
    refine asg rfl rfl <| lz <| l_q rfl (qlda rfl yA32 yS32) ?_
    refine mv rfl rfl <| mv rfl rfl <| lc1 rfl rfl rfl (TGet_ok G hGT pa off (off + 64) n e s l64 T hP _ hhb (letter i) (by rw [hks, kN64])) ?_
    rw [← hC]
    refine mv rfl rfl <| l_q rfl (q_extractL rfl ga) ?_
    refine l_q rfl (q_extractL rfl ga) ?_
    refine o_allocA rfl yZ66 fun b15 => sta rfl rfl rfl yS66 rfl rfl ?_
    refine asg rfl rfl <| lz <| l_q rfl (qlda rfl yA32 yS32) ?_
    refine mv rfl rfl <| mv rfl rfl <| lc1 rfl rfl rfl (TGet_ok G hGT pa o1 (o1 + 64) n e s l64 U1 hP1 _ hhb (letter i) (by rw [hks, kN64])) ?_
    rw [← hD]
    refine mv rfl rfl <| l_q rfl (q_extractL rfl ga) ?_
    refine l_q rfl (q_extractL rfl ga) ?_
    refine o_allocA rfl yZ66 fun b17 => sta rfl rfl rfl yS66 rfl rfl ?_
    refine asg rfl rfl <| lc <| t_seq <| sr <| mv rfl rfl <| l_q rfl (qi rfl rfl (b_neq ·)) <| mv rfl rfl <| l_pt (t := 55) rfl (fun z1 => ?_) fun z1 => ?_
    · exact absurd rfl z1
    · refine l_on rfl rfl <| mv rfl rfl <| l_on rfl rfl <| l_q rfl (qi rfl rfl (b_neq ·)) <| l_q rfl (q_pk rfl rfl) <| lc <| t_if rfl (fun z2 => ?_) fun z2 => ?_
      · exact absurd rfl z2
      · refine t_skip <| n_code <| t_seq <| t_seq <| t_draw mixed ?_
        apply dq 0 rfl
        · exact yq (qlda rfl yA32 yS32)
        apply dq 2 rfl
        · exact yq (qlda rfl yA32 yS32)
        refine d_eff1 [0] [2] 1 [(59, _)] gO ⟨rfl, trivial⟩ (by kernel_rfl) (by kernel_rfl) fun Ex => ?_
        refine lc1 rfl rfl rfl (TOff_ok pa l64 (o1 : Nat)) ?_
        refine l_nil ?_
        apply n_d
        · refine ⟨?_, trivial⟩
          · apply ya rfl rfl; exact yq (qlda rfl yA32 yS32)
        refine d_eff1 [2] [] 3 [(61, _)] gO ⟨rfl, trivial⟩ (by kernel_rfl) (by kernel_rfl) fun Ex => ?_
        refine lc1 rfl rfl rfl (TOff_ok pa l64 (o2 : Nat)) ?_
        refine l_nil ?_
        apply n_d
        · exact trivial
        apply dq 4 rfl
        · exact yq (qi rfl rfl (b_neq ·))
        refine d_end (by kernel_rfl) ?_
        refine n_code <| t_if rfl (fun z3 => ?_) fun z3 => ?_
        · refine sr <| l_q rfl (qlda rfl yA32 yS32) ?_
          refine mv rfl rfl <| mv rfl rfl <| lc1 rfl rfl rfl (TGet_ok G hGT pa o2 (o2 + 64) n e s l64 U2 hP2 _ hhb (letter i) (by rw [hks, kN64])) ?_
          rw [← hX]
          refine mv rfl rfl <| l_q rfl (q_extractL rfl ga) ?_
          refine l_q rfl (q_extractL rfl ga) ?_
          refine o_allocA rfl yZ66 fun b19 => sta rfl rfl rfl yS66 rfl rfl ?_
          refine asg rfl rfl <| lc <| t_seq <| sr <| mv rfl rfl <| l_q rfl (qi rfl rfl (b_neq ·)) <| mv rfl rfl <| l_pt (t := 73) rfl (fun y1 => ?_) fun y1 => ?_
          · exact absurd rfl y1
          · refine l_on rfl rfl <| l_q rfl (qfa 0 rfl yU66 rfl rfl yS3) <| l_on rfl rfl <| l_q rfl (qld rfl yA3) ?_
            refine l_on rfl rfl <| l_q rfl (qi rfl rfl (b_neq ·)) <| l_on rfl rfl <| mv rfl rfl <| l_pt (t := 77) rfl (fun y2 => ?_) fun y2 => ?_
            · refine l_on rfl rfl <| l_q rfl (qfa 0 rfl yU66 rfl rfl yS3) <| l_on rfl rfl <| l_q rfl (qld rfl yA3) ?_
              refine l_on rfl rfl <| l_q rfl (qi rfl rfl (b_neq ·)) <| l_on rfl rfl <| l_q rfl (q_pk rfl rfl) <| l_q rfl (q_pk rfl rfl) <| lc <| t_if rfl (fun y3 => ?_) fun y3 => ?_
              · exfalso
                rcases hDX with ⟨_, q⟩ | ⟨q, _⟩
                · exact y2 (kind_zero.2 q)
                · exact y3 (kind_zero.2 q)
              · refine t_skip <| nz <| l_q rfl (qfa 0 rfl yU66 rfl rfl yS3) <| l_q rfl (qld rfl yA3) ?_
                refine l_q rfl (qi rfl rfl (b_neq ·)) <| lc <| t_if rfl (fun y4 => ?_) fun y4 => ?_
                · obtain rfl : X = C := by rcases hDX with ⟨_, q⟩ | ⟨_, q⟩; exact absurd (kind_zero.2 q) y4; exact q
                  refine t_region <| l_q rfl (qlda rfl yA66 yS66) ?_
                  refine sta rfl rfl rfl yS66 rfl rfl ?_
                  refine lc <| t_seq <| sr <| l_q rfl (qlda rfl yA66 yS66) ?_
                  refine l_q rfl (qlda rfl yA66 yS66) ?_
                  refine l_q rfl (q_bin rfl rfl (g_flat · yG66) fun w => b_neqFlat w yU66 yH66 (by kernel_rfl) (by kernel_rfl)) ?_
                  refine lc <| t_if rfl (fun z4 => ?_) fun z4 => ?_
                  · simp at z4
                  · refine t_skip <| nz <| l_q rfl (qfa 0 rfl yU66 rfl rfl yS3) <| l_q rfl (qld rfl yA3) ?_
                    refine l_q rfl (qi rfl rfl (b_eql ·)) <| lc <| t_if rfl (fun z5 => ?_) fun z5 => ?_
                    · refine t_region <| mv rfl rfl <| l_q rfl (qadd rfl rfl) ?_
                      refine asg rfl rfl <| l_nil <| n_blk <| n_code <| t_region <| mv rfl rfl <| l_q rfl (qadd rfl rfl) ?_
                      refine asg rfl rfl <| l_nil ?_
                      rw [if_pos (kind_full.1 z5)] at hcs
                      apply n_again ((i + 1))
                      · exact by omega
                      · omega
                      · exact ⟨rfl, rfl, rfl, rfl, rfl, by rw [hcs]; rfl, rfl, trivial⟩
                      · exact en
                    · refine t_skip <| n_blk <| n_code <| t_region <| mv rfl rfl <| l_q rfl (qadd rfl rfl) ?_
                      refine asg rfl rfl <| l_nil ?_
                      rw [if_neg (fun q => z5 (kind_full.2 q))] at hcs
                      apply n_again ((i + 1))
                      · exact by omega
                      · omega
                      · exact ⟨rfl, rfl, rfl, rfl, rfl, by rw [hcs]; rfl, rfl, trivial⟩
                      · exact en
                · exact absurd y2 y4
            · refine l_off rfl rfl rfl rfl <| l_off rfl rfl rfl rfl <| l_off rfl rfl rfl rfl <| l_on rfl rfl <| l_q rfl (q_pk rfl rfl) <| l_q rfl (q_pk rfl rfl) <| lc <| t_cond_f rfl <| t_skip <| nz <| l_q rfl (qfa 0 rfl yU66 rfl rfl yS3) <| l_q rfl (qld rfl yA3) ?_
              refine l_q rfl (qi rfl rfl (b_neq ·)) <| lc <| t_if rfl (fun y4 => ?_) fun y4 => ?_
              · exact absurd y4 y2
              · obtain rfl : D = C := by rcases hDX with ⟨q, _⟩ | ⟨q, q2⟩; exact q; rw [q, ← q2]; exact (kind_zero.1 (by simpa using y4)).symm
                refine t_skip <| n_code <| t_seq <| sr <| l_q rfl (qlda rfl yA66 yS66) ?_
                refine l_q rfl (qlda rfl yA66 yS66) ?_
                refine l_q rfl (q_bin rfl rfl (g_flat · yG66) fun w => b_neqFlat w yU66 yH66 (by kernel_rfl) (by kernel_rfl)) ?_
                refine lc <| t_if rfl (fun z4 => ?_) fun z4 => ?_
                · simp at z4
                · refine t_skip <| nz <| l_q rfl (qfa 0 rfl yU66 rfl rfl yS3) <| l_q rfl (qld rfl yA3) ?_
                  refine l_q rfl (qi rfl rfl (b_eql ·)) <| lc <| t_if rfl (fun z5 => ?_) fun z5 => ?_
                  · refine t_region <| mv rfl rfl <| l_q rfl (qadd rfl rfl) ?_
                    refine asg rfl rfl <| l_nil <| n_blk <| n_code <| t_region <| mv rfl rfl <| l_q rfl (qadd rfl rfl) ?_
                    refine asg rfl rfl <| l_nil ?_
                    rw [if_pos (kind_full.1 z5)] at hcs
                    apply n_again ((i + 1))
                    · exact by omega
                    · omega
                    · exact ⟨rfl, rfl, rfl, rfl, rfl, by rw [hcs]; rfl, rfl, trivial⟩
                    · exact en
                  · refine t_skip <| n_blk <| n_code <| t_region <| mv rfl rfl <| l_q rfl (qadd rfl rfl) ?_
                    refine asg rfl rfl <| l_nil ?_
                    rw [if_neg (fun q => z5 (kind_full.2 q))] at hcs
                    apply n_again ((i + 1))
                    · exact by omega
                    · omega
                    · exact ⟨rfl, rfl, rfl, rfl, rfl, by rw [hcs]; rfl, rfl, trivial⟩
                    · exact en
        · exact absurd (fun q => hne (by omega)) z3
  · skip
    obtain rfl : i = 62 := by omega
    refine xt rfl <| nz <| l_q rfl (qlda rfl yA32 yS32) ?_
    refine lc1 rfl rfl rfl (StatP_ok pa o1 (o1 + 64) n e s l64 U1 hP1) ?_
    refine mv rfl rfl <| l_q rfl (q_extractL rfl ga) ?_
    refine l_q rfl (q_extractL rfl ga) ?_
    refine o_allocA rfl yZ39 fun b21 => sta rfl rfl rfl yS39 rfl rfl ?_
    refine asg rfl rfl <| lz <| l_q rfl (qlda rfl yA32 yS32) ?_
    refine lc1 rfl rfl rfl (StatP_ok pa o2 (o2 + 64) n e s l64 U2 hP2) ?_
    refine mv rfl rfl <| l_q rfl (q_extractL rfl ga) ?_
    refine l_q rfl (q_extractL rfl ga) ?_
    refine o_allocA rfl yZ39 fun b23 => sta rfl rfl rfl yS39 rfl rfl ?_
    refine asg rfl rfl <| lc <| t_seq <| sr <| mv rfl rfl <| l_q rfl (qi rfl rfl (b_neq ·)) <| mv rfl rfl <| l_pt (t := 107) rfl (fun y1 => ?_) fun y1 => ?_
    · exact absurd rfl y1
    · refine l_on rfl rfl <| mv rfl rfl <| l_on rfl rfl <| l_q rfl (qi rfl rfl (b_neq ·)) <| l_q rfl (q_pk rfl rfl) <| lc <| t_if rfl (fun y2 => ?_) fun y2 => ?_
      · exact absurd rfl y2
      · refine t_skip <| n_code <| t_seq <| t_seq <| t_draw mixed ?_
        apply dq 0 rfl
        · exact yq (qlda rfl yA32 yS32)
        apply dq 2 rfl
        · exact yq (qlda rfl yA32 yS32)
        refine d_eff1 [0] [2] 1 [(111, _)] gO ⟨rfl, trivial⟩ (by kernel_rfl) (by kernel_rfl) fun Ex => ?_
        refine lc1 rfl rfl rfl (TOff_ok pa l64 (o1 : Nat)) ?_
        refine l_nil ?_
        apply n_d
        · refine ⟨?_, trivial⟩
          · apply ya rfl rfl; exact yq (qlda rfl yA32 yS32)
        refine d_eff1 [2] [] 3 [(113, _)] gO ⟨rfl, trivial⟩ (by kernel_rfl) (by kernel_rfl) fun Ex => ?_
        refine lc1 rfl rfl rfl (TOff_ok pa l64 (o2 : Nat)) ?_
        refine l_nil ?_
        apply n_d
        · exact trivial
        apply dq 4 rfl
        · exact yq (qi rfl rfl (b_eql ·))
        refine d_end (by kernel_rfl) ?_
        refine n_code <| t_if rfl (fun y3 => ?_) fun y3 => ?_
        · omega
        · refine t_skip <| nz <| l_q rfl (qfa 0 rfl yU39 rfl rfl yS3) <| l_q rfl (qld rfl yA3) ?_
          refine l_q rfl (qfa 0 rfl yU39 rfl rfl yS3) <| l_q rfl (qld rfl yA3) ?_
          refine l_q rfl (qadd rfl rfl) ?_
          refine mv rfl rfl <| l_q rfl (qi rfl rfl (b_eql ·)) <| asg rfl rfl <| lc <| rt <| fr1 rfl ([pt po (.cells #[.map (some bm)] 151 (0, 0)), mapH (fun k : ByteArray => Value.string k) bm m, G, arenaH pa s]) (.tmp rfl) ?_
          exact ⟨by rw [decide_eq_true (by omega)], rfl⟩
end Go.Proofs.YtmdangoaomppdaaGreatDoor.Grow
