/- GrowSplits answers true. -/
import Derived.Test.YtmdangoaomppdaaGreatDoorGrowQ
set_option linter.unusedVariables false
set_option linter.unusedSimpArgs false
set_option maxRecDepth 100000
namespace Go.Proofs.YtmdangoaomppdaaGreatDoor.Grow
open Go.RowKit Go.Proofs Go.Proofs.YtmdangoaomppdaaGreatDoor.Eng Go.Proofs.YtmdangoaomppdaaGreatDoor.Ty Go.Proofs.YtmdangoaomppdaaGreatDoor.Bits Go.Proofs.YtmdangoaomppdaaGreatDoor.Mem Go.Proofs.YtmdangoaomppdaaGreatDoor.Search Go.Proofs.YtmdangoaomppdaaGreatDoor.Arena Go.Proofs.YtmdangoaomppdaaGreatDoor.CtrlB Go.Proofs.YtmdangoaomppdaaGreatDoor.Ctrl Go.Proofs.YtmdangoaomppdaaGreatDoor.Layout Go.Proofs.YtmdangoaomppdaaGreatDoor.GroupB Go.Proofs.YtmdangoaomppdaaGreatDoor.Group Go.Proofs.YtmdangoaomppdaaGreatDoor.Probe Go.Proofs.YtmdangoaomppdaaGreatDoor.TableB Go.Proofs.YtmdangoaomppdaaGreatDoor.TableI Go.Proofs.YtmdangoaomppdaaGreatDoor.Table Go.Proofs.YtmdangoaomppdaaGreatDoor.Bench Go.Proofs.YtmdangoaomppdaaGreatDoor.Cells Go.Proofs.YtmdangoaomppdaaGreatDoor.Refill Go.Proofs.YtmdangoaomppdaaGreatDoor.Oracle Go.Proofs.YtmdangoaomppdaaGreatDoor.Ref03

/-- What two tables more take. -/
theorem cls_fit2 (size : Int) : (64 + classI ((nOf size * gN l64 : Nat) : Int)) + (64 + classI ((nOf size * gN l64 : Nat) : Int)) + (64 + classI ((nOf size * gN l64 : Nat) : Int)) ≤ 65536 ∧ 0 ≤ classI ((nOf size * gN l64 : Nat) : Int) := by
  have := eOf_le size
  rw [gN64]
  unfold nOf
  have : eOf size = 1 ∨ eOf size = 2 ∨ eOf size = 3 := by omega
  rcases this with e | e | e <;> rw [e] <;> decide
theorem GrowSplits_ok (G : HP) (hGT : TabOk G) (hGO : OddOk G) (seed size depth : Int) (vh vs : Value) (hs : List Int) (ts : List (Int × Int × Bool)) (hL : LifeAt G seed size depth vh vs hs ts) :
    FnOk Tryz.prog 6 #[.agg #[.int .u64 seed, .int .i64 size, .int .i64 depth, vh, vs]] [G] (fun v L => v = .bool true ∧ L = [G]) := by
  obtain ⟨hfit, hc1⟩ := cls_fit2 size
  have hn2 := nOf_le size
  have hm := osOf_ok hL.hashWf
  have hd1 := Int.emod_nonneg depth (show (6 : Int) ≠ 0 by decide)
  have hd2 := Int.emod_lt_of_pos depth (show (0 : Int) < 6 by decide)
  have hseed := hL.seed
  refine fn_intro en6 Tryz.func6 rfl rfl rfl fun Fr w0 => t_nm ?_
  refine sr <| o_boxA rfl rfl fun b1 => asg rfl rfl <| lz <| l_q rfl (qlda rfl yA26 yS26) ?_
  refine lcf rfl rfl rfl (live_ok G hGT hGO seed size depth vh vs hs ts hL 65536 (by decide) (by omega)) ?_
  rintro v L' ⟨pa, po, bm, off, s, T, rfl, rfl, hW, hl, hv, hK⟩
  refine l_nm ?_
  refine mv rfl rfl <| l_q rfl (q_extractL rfl ga) ?_
  refine l_q rfl (q_extractL rfl ga) ?_
  refine o_allocA rfl yZ34 fun b3 => sta rfl rfl rfl yS34 rfl rfl ?_
  refine asg rfl rfl <| lc <| t_seq <| sr <| mv rfl rfl <| l_q rfl (q_un rfl (u_not ·)) <| lc <| t_if rfl (fun z1 => ?_) fun z1 => ?_
  · simp at z1
  · refine t_skip <| nz <| l_q rfl (qlda rfl yA34 yS34) ?_
    refine l_q rfl (qfa 2 rfl yU34 rfl rfl yS32) <| l_q rfl (qlda rfl yA32 yS32) ?_
    refine l_pure (φ := s.ok) (fun w hw => arena_ok (pa := pa) hw tk) fun hok0 => ?_
    have hdT : 0 ≤ T.depth ∧ T.depth ≤ 5 := by rw [hK.depth]; show 0 ≤ depth % 6 ∧ depth % 6 ≤ 5; omega
    have hsm1 : ((nOf size * gN l64 : Nat) : Int) ≤ 1048576 := by rw [gN64]; omega
    have hst := hok0.stop_eq
    have hpT := hW.lt
    refine lc1 rfl rfl rfl (picture_ok pa po off (nOf size) (eOf size) (off : Nat) s T hW.tab hW.blk (by omega)) ?_
    refine asg rfl rfl <| lz <| l_q rfl (qfa 2 rfl yU34 rfl rfl yS32) <| l_q rfl (qlda rfl yA32 yS32) ?_
    refine lc1 rfl rfl rfl (StatP_ok pa off (off + 64) (nOf size) (eOf size) s l64 T hW.tab) ?_
    refine mv rfl rfl <| l_q rfl (q_extractL rfl ga) ?_
    refine l_q rfl (q_extractL rfl ga) ?_
    refine o_allocA rfl yZ39 fun b6 => sta rfl rfl rfl yS39 rfl rfl ?_
    refine asg rfl rfl <| lz <| l_q rfl (qfa 2 rfl yU34 rfl rfl yS32) <| l_q rfl (qlda rfl yA32 yS32) ?_
    refine l_q rfl (qfa 1 rfl yU34 rfl rfl yS28) <| l_q rfl (qld rfl yA28) ?_
    refine l_q rfl (qfa 0 rfl yU26 rfl rfl yS22) <| l_q rfl (qld rfl yA22) ?_
    refine lcf rfl rfl rfl (Split_ok G hGT hGO pa off po bm (nOf size) (eOf size) s l64 T _ hm seed hL.seed hW.tab hW.lt hdT hsm1 (by omega)) ?_
    rintro v L' ⟨s1, s2, U1, U2, L1, L2, rfl, rfl, hO2, hT1, hT2, hS1, hS2, ho1, ho2, hli, hlv, hmm, hbl⟩
    refine l_nm ?_
    refine mv rfl rfl <| l_q rfl (q_extractL rfl ga) ?_
    refine l_q rfl (q_extractL rfl ga) ?_
    refine l_q rfl (q_extractL rfl ga) ?_
    refine o_allocA rfl yZ32 fun b8 => o_allocA rfl yZ32 fun b9 => sta rfl rfl rfl yS32 rfl rfl ?_
    refine sta rfl rfl rfl yS32 rfl rfl ?_
    refine asg rfl rfl <| lc <| t_seq <| t_seq <| t_draw mixed ?_
    apply dq 0 rfl
    · exact yq (q_move rfl)
    apply dq 1 rfl
    · exact yq (qi rfl rfl (b_neq ·))
    apply dq 2 rfl
    · exact yq (q_move rfl)
    have hblk := hbl _ hW.blk
    have hgg := goodP.end_le hok0 (off := ((off + 64 : Nat) : Int)) (n := classI ((nOf size * gN l64 : Nat) : Int)) ⟨hc1, _, hW.blk, Int.le_refl _, Int.le_refl _⟩
    have hpic : picS s2.m off (nOf size) = picS s.m off (nOf size) := picS_congr (fun a h1 h2 => hmm a (by omega)) (fun a h1 h2 => hmm a (by omega))
    obtain ⟨hu1, hu2, _, _⟩ := hS1.rf.counts
    obtain ⟨hv1, hv2, _, _⟩ := hS2.rf.counts
    have hfull := cnt_le isFull T.cells (8 * nOf size)
    have hsc := side_cnt (H := hashF (mapO (osOf hs)) seed) (d := T.depth) (cs := T.cells) (8 * nOf size)
    have hK1 := hS1.keeps
    have hK2 := hS2.keeps
    refine d_pt (t := 51) rfl (fun c1 => ?_) fun c1 => ?_
    · exact absurd rfl c1
    · apply dq 3 rfl
      · exact yq_on rfl rfl (q_move rfl)
      apply dq 4 rfl
      · exact yq_on rfl rfl (qi rfl rfl (b_neq ·))
      apply dq 5 rfl
      · exact yq (q_pk rfl rfl)
      apply dq 6 rfl
      · exact yq (q_move rfl)
      refine d_pt (t := 55) rfl (fun c3 => ?_) fun c3 => ?_
      · exact absurd rfl c3
      · apply dq 7 rfl
        · exact yq_on rfl rfl (q_move rfl)
        apply dq 8 rfl
        · exact yq_on rfl rfl (qs rfl rfl (b_eqlS ·))
        apply dq 9 rfl
        · exact yq (q_pk rfl rfl)
        apply dq 10 rfl
        · exact yq (q_move rfl)
        refine d_pt (t := 59) rfl (fun c4 => ?_) fun c4 => ?_
        · exact absurd c4 (picS_ne _ _ _)
        · apply dq 11 rfl
          · exact yq_on rfl rfl (qlda rfl yA32 yS32)
          apply dq 13 rfl
          · exact yq_on rfl rfl (qlda rfl yA32 yS32)
          refine d_eff1 [11, 10, 9, 6, 8, 5, 2, 7, 4, 1, 3, 0] [13] 12 [(60, _), (59, _)] gO ⟨rfl, rfl, trivial⟩ (by kernel_rfl) (by kernel_rfl) fun Ex => ?_
          refine l_on rfl rfl <| lc1 rfl rfl rfl (TOff_ok pa l64 (s.stop : Nat)) ?_
          refine l_nil ?_
          apply n_d
          · refine ⟨?_, trivial⟩
            · apply ya rfl rfl; exact yq_on rfl rfl (qlda rfl yA32 yS32)
          refine d_eff1 [13] [] 14 [(62, _), (59, _)] gO ⟨rfl, rfl, trivial⟩ (by kernel_rfl) (by kernel_rfl) fun Ex => ?_
          refine l_on rfl rfl <| lc1 rfl rfl rfl (TOff_ok pa l64 (s1.stop : Nat)) ?_
          refine l_nil ?_
          apply n_d
          · exact trivial
          apply dq 15 rfl
          · exact yq_on rfl rfl (qi rfl rfl (b_eql ·))
          apply dq 16 rfl
          · exact yq (q_pk rfl rfl)
          apply dq 17 rfl
          · exact yq (q_move rfl)
          refine d_pt (t := 66) rfl (fun c5 => ?_) fun c5 => ?_
          · omega
          · apply dq 18 rfl
            · exact yq_on rfl rfl (qlda rfl yA32 yS32)
            apply dq 20 rfl
            · exact yq_on rfl rfl (qfa 2 rfl yU34 rfl rfl yS32)
            apply dq 21 rfl
            · exact yq_on rfl rfl (qlda rfl yA32 yS32)
            refine d_eff1 [18, 17, 16, 15] [21, 20] 19 [(67, _), (66, _)] gO ⟨rfl, rfl, trivial⟩ (by kernel_rfl) (by kernel_rfl) fun Ex => ?_
            refine l_on rfl rfl <| lc1 rfl rfl rfl (TOff_ok pa l64 (s.stop : Nat)) ?_
            refine l_nil ?_
            apply n_d
            · refine ⟨?_, ?_, trivial⟩
              · apply ya rfl rfl; exact yq_on rfl rfl (qlda rfl yA32 yS32)
              · apply ya rfl rfl; exact yq_on rfl rfl (qfa 2 rfl yU34 rfl rfl yS32)
            refine d_eff1 [21, 20] [] 22 [(70, _), (66, _)] gO ⟨rfl, rfl, trivial⟩ (by kernel_rfl) (by kernel_rfl) fun Ex => ?_
            refine l_on rfl rfl <| lc1 rfl rfl rfl (TOff_ok pa l64 (off : Nat)) ?_
            refine l_nil ?_
            apply n_d
            · exact trivial
            apply dq 23 rfl
            · exact yq_on rfl rfl (qi rfl rfl (b_eql ·))
            apply dq 24 rfl
            · exact yq (q_pk rfl rfl)
            apply dq 25 rfl
            · exact yq (q_move rfl)
            refine d_pt (t := 74) rfl (fun c6 => ?_) fun c6 => ?_
            · omega
            · apply dq 26 rfl
              · exact yq_on rfl rfl (qlda rfl yA32 yS32)
              apply dq 28 rfl
              · exact yq_on rfl rfl (qfa 2 rfl yU34 rfl rfl yS32)
              apply dq 29 rfl
              · exact yq_on rfl rfl (qlda rfl yA32 yS32)
              refine d_eff1 [26, 25, 24, 23] [29, 28] 27 [(75, _), (74, _)] gO ⟨rfl, rfl, trivial⟩ (by kernel_rfl) (by kernel_rfl) fun Ex => ?_
              refine l_on rfl rfl <| lc1 rfl rfl rfl (TOff_ok pa l64 (s1.stop : Nat)) ?_
              refine l_nil ?_
              apply n_d
              · refine ⟨?_, ?_, trivial⟩
                · apply ya rfl rfl; exact yq_on rfl rfl (qlda rfl yA32 yS32)
                · apply ya rfl rfl; exact yq_on rfl rfl (qfa 2 rfl yU34 rfl rfl yS32)
              refine d_eff1 [29, 28] [] 30 [(78, _), (74, _)] gO ⟨rfl, rfl, trivial⟩ (by kernel_rfl) (by kernel_rfl) fun Ex => ?_
              refine l_on rfl rfl <| lc1 rfl rfl rfl (TOff_ok pa l64 (off : Nat)) ?_
              refine l_nil ?_
              apply n_d
              · exact trivial
              apply dq 31 rfl
              · exact yq_on rfl rfl (qi rfl rfl (b_eql ·))
              apply dq 32 rfl
              · exact yq (q_pk rfl rfl)
              refine d_end (by kernel_rfl) ?_
              refine n_code <| t_if rfl (fun c7 => ?_) fun c7 => ?_
              · omega
              · refine t_skip <| n_code <| t_seq <| sr <| l_q rfl (qlda rfl yA32 yS32) ?_
                refine l_q rfl (qfa 1 rfl yU39 rfl rfl yS3) <| l_q rfl (qld rfl yA3) ?_
                refine l_q rfl (qfa 3 rfl yU39 rfl rfl yS3) <| l_q rfl (qld rfl yA3) ?_
                refine l_q rfl (qadd rfl rfl) ?_
                refine lc1 rfl rfl rfl (fresh_ok pa s.stop (nOf size) (eOf size) s2 U1 hT1 _ _ rfl hK1.depth (by omega) hK1.pins hK1.next hK1.kind (by omega)) ?_
                refine l_q rfl (q_un rfl (u_not ·)) <| mv rfl rfl <| l_pt (t := 90) rfl (fun d1 => ?_) fun d1 => ?_
                · simp at d1
                · refine l_on rfl rfl <| l_q rfl (qlda rfl yA32 yS32) ?_
                  refine l_on rfl rfl <| l_q rfl (qfa 1 rfl yU39 rfl rfl yS3) <| l_on rfl rfl <| l_q rfl (qld rfl yA3) ?_
                  refine l_on rfl rfl <| l_q rfl (qfa 3 rfl yU39 rfl rfl yS3) <| l_on rfl rfl <| l_q rfl (qld rfl yA3) ?_
                  refine l_on rfl rfl <| l_q rfl (qadd rfl rfl) ?_
                  refine l_on rfl rfl <| lc1 rfl rfl rfl (fresh_ok pa s1.stop (nOf size) (eOf size) s2 U2 hT2 _ _ rfl hK2.depth (by omega) hK2.pins hK2.next hK2.kind (by omega)) ?_
                  refine l_on rfl rfl <| l_q rfl (q_un rfl (u_not ·)) <| l_q rfl (q_pk rfl rfl) <| mv rfl rfl <| l_pt (t := 100) rfl (fun d2 => ?_) fun d2 => ?_
                  · simp at d2
                  · refine l_on rfl rfl <| l_q rfl (qlda rfl yA34 yS34) ?_
                    refine l_on rfl rfl <| l_q rfl (qlda rfl yA26 yS26) ?_
                    refine l_on rfl rfl <| l_q rfl (qfa 2 rfl yU34 rfl rfl yS32) <| l_on rfl rfl <| l_q rfl (qlda rfl yA32 yS32) ?_
                    refine l_on rfl rfl <| l_q rfl (qlda rfl yA32 yS32) ?_
                    refine l_on rfl rfl <| l_q rfl (qlda rfl yA32 yS32) ?_
                    refine l_on rfl rfl <| lc1 rfl rfl rfl (holds2_ok G hGT hGO pa po bm off (nOf size) (eOf size) s2 T _ hm seed hL.seed size depth vh vs (off : Nat) hO2 hW.lt s.stop s1.stop (by omega) T.depth (T.depth + 1) U1 U2 L1 L2 hT1 hT2 hS1 hS2) ?_
                    refine l_on rfl rfl <| l_q rfl (q_un rfl (u_not ·)) <| l_q rfl (q_pk rfl rfl) <| lc <| t_if rfl (fun d3 => ?_) fun d3 => ?_
                    · simp at d3
                    · refine t_skip <| n_code <| t_seq <| sr <| asg rfl rfl <| lc <| t_block ?_
                      refine t_loop (fun i : Nat => i ≤ 62) (fun i => [(1, .pointer (some ⟨b1, 0, none⟩)), (3, .pointer (some ⟨b3, 0, none⟩)), (5, .string (picS s.m off (nOf size))), (6, .pointer (some ⟨b6, 0, none⟩)), (8, .pointer (some ⟨b8, 0, none⟩)), (9, .pointer (some ⟨b9, 0, none⟩)), (11, .int .i64 (i : Nat))]) (fun _ => pt b9 (.cells #[.pointer (some ⟨pa, 0, none⟩), .int .i64 l64.key, .int .i64 l64.elem, .int .i64 l64.ka, .int .i64 l64.ea, .int .i64 l64.cap, .int .i64 l64.eo, .int .i64 l64.bo, .int .i64 l64.slot, .int .i64 l64.group, .int .i64 (s1.stop : Nat)] 32 (0, 0)) :: pt b8 (.cells #[.pointer (some ⟨pa, 0, none⟩), .int .i64 l64.key, .int .i64 l64.elem, .int .i64 l64.ka, .int .i64 l64.ea, .int .i64 l64.cap, .int .i64 l64.eo, .int .i64 l64.bo, .int .i64 l64.slot, .int .i64 l64.group, .int .i64 (s.stop : Nat)] 32 (0, 0)) :: pt b6 (.cells #[.int .i64 T.used, .int .i64 (8 * ((nOf size) : Int)), .int .i64 T.left, .int .i64 T.depth, .int .i64 T.pins, .int .i64 T.next, .bool (decide (T.kind = 4)), .int .i64 ((off + 64) : Nat)] 39 (0, 0)) :: pt b3 (.cells #[.pointer (some ⟨pa, 0, none⟩), .pointer (some ⟨po, 0, none⟩), .pointer (some ⟨pa, 0, none⟩), .int .i64 l64.key, .int .i64 l64.elem, .int .i64 l64.ka, .int .i64 l64.ea, .int .i64 l64.cap, .int .i64 l64.eo, .int .i64 l64.bo, .int .i64 l64.slot, .int .i64 l64.group, .int .i64 (off : Nat)] 34 (0, 0)) :: pt b1 (.cells #[.int .u64 seed, .int .i64 size, .int .i64 depth, vh, vs] 26 (0, 0)) :: pt po (.cells #[.map (some bm)] 151 (0, 0)) :: mapH (fun k : ByteArray => Value.string k) bm (mapO (osOf hs)) :: G :: arenaH pa s2 :: Fr) (fun i => 62 - i) 0 (Nat.zero_le _) ⟨rfl, rfl, rfl, rfl, rfl, rfl, rfl, trivial⟩ (by (exact en)) ?_
                      intro i hi
                      refine t_seq <| sr <| mv rfl rfl <| l_q rfl (qi rfl rfl (b_lss ·)) <| lc <| t_if rfl (fun h1 => ?_) fun h1 => ?_
                      · skip
                        have hks := letter_size (i := i) (by omega)
                        have hhb := hashF_bnd hm seed (letter i)
                        obtain ⟨C, hC⟩ : ∃ C, C = getC (nOf size) T (hashF (mapO (osOf hs)) seed (letter i)) (letter i) := ⟨_, rfl⟩
                        obtain ⟨D, hD⟩ : ∃ D, D = getC (nOf size) U1 (hashF (mapO (osOf hs)) seed (letter i)) (letter i) := ⟨_, rfl⟩
                        obtain ⟨X, hX⟩ : ∃ X, X = getC (nOf size) U2 (hashF (mapO (osOf hs)) seed (letter i)) (letter i) := ⟨_, rfl⟩
                        have hDX : (bitF (hashF (mapO (osOf hs)) seed (letter i)) T.depth = 0 ∧ X = .empty) ∨ (D = .empty ∧ bitF (hashF (mapO (osOf hs)) seed (letter i)) T.depth = 1) := by
                          rw [side_get hW.lt (by omega) hS1.rf (letter i), ← hC] at hD
                          rw [side_get hW.lt (by omega) hS2.rf (letter i), ← hC] at hX
                          rcases bitF_two (hashF (mapO (osOf hs)) seed (letter i)) T.depth with q | q
                          · rw [if_neg (by omega)] at hX; exact .inl ⟨q, hX⟩
                          · rw [if_neg (by omega)] at hD; exact .inr ⟨hD, q⟩
                        have hbit := bit_eq hhb (d := T.depth) (by omega)
                        refine t_skip <| n_code <| t_seq <| t_block <| sr <| mv rfl rfl <| mv rfl rfl <| l_q rfl (qadd rfl rfl) ?_
                        apply l_q rfl
                        · refine QV.to (v' := .string (letter i)) (q_sliceS_lh (s := letters) rfl rfl rfl Tryz.underlying9 ⟨by omega, by omega, by show _ ≤ (62 : Int); omega⟩) (by rw [show ((i : Int) + 1).toNat = i + 1 by omega, Int.toNat_natCast]; rfl)
                        refine asg rfl rfl <| lz <| l_q rfl (qfa 1 rfl yU34 rfl rfl yS28) <| l_q rfl (qld rfl yA28) ?_
                        refine l_q rfl (qfa 0 rfl yU26 rfl rfl yS22) <| l_q rfl (qld rfl yA22) ?_
                        refine mv rfl rfl <| lc1 rfl rfl rfl (Hash_ok G hGO po bm _ hm seed hseed (letter i) (by omega)) ?_
                        refine asg rfl rfl <| lz <| l_q rfl (qfa 2 rfl yU34 rfl rfl yS32) <| l_q rfl (qlda rfl yA32 yS32) ?_
                        refine mv rfl rfl <| mv rfl rfl <| lc1 rfl rfl rfl (TGet_ok G hGT pa off (off + 64) (nOf size) (eOf size) s2 l64 T hO2 _ hhb (letter i) (by rw [hks, kN64])) ?_
                        rw [← hC]
                        refine mv rfl rfl <| l_q rfl (q_extractL rfl ga) ?_
                        refine l_q rfl (q_extractL rfl ga) ?_
                        refine o_allocA rfl yZ66 fun b14 => sta rfl rfl rfl yS66 rfl rfl ?_
                        refine asg rfl rfl <| lz <| l_q rfl (qlda rfl yA32 yS32) ?_
                        refine mv rfl rfl <| mv rfl rfl <| lc1 rfl rfl rfl (TGet_ok G hGT pa s.stop (s.stop + 64) (nOf size) (eOf size) s2 l64 U1 hT1 _ hhb (letter i) (by rw [hks, kN64])) ?_
                        rw [← hD]
                        refine mv rfl rfl <| l_q rfl (q_extractL rfl ga) ?_
                        refine l_q rfl (q_extractL rfl ga) ?_
                        refine o_allocA rfl yZ66 fun b16 => sta rfl rfl rfl yS66 rfl rfl ?_
                        refine asg rfl rfl <| lz <| l_q rfl (qlda rfl yA32 yS32) ?_
                        refine mv rfl rfl <| mv rfl rfl <| lc1 rfl rfl rfl (TGet_ok G hGT pa s1.stop (s1.stop + 64) (nOf size) (eOf size) s2 l64 U2 hT2 _ hhb (letter i) (by rw [hks, kN64])) ?_
                        rw [← hX]
                        refine mv rfl rfl <| l_q rfl (q_extractL rfl ga) ?_
                        refine l_q rfl (q_extractL rfl ga) ?_
                        refine o_allocA rfl yZ66 fun b18 => sta rfl rfl rfl yS66 rfl rfl ?_
                        refine asg rfl rfl <| lz <| mv rfl rfl <| l_q rfl (qfa 3 rfl yU39 rfl rfl yS3) <| l_q rfl (qld rfl yA3) ?_
                        refine l_q rfl (qsub rfl rfl) ?_
                        apply l_q rfl
                        · apply qi rfl rfl; exact fun w => b_shr w (by omega)
                        refine l_q rfl (qbit rfl rfl rfl) <| l_q rfl (qcv rfl yU22 yU3) ?_
                        refine asg rfl rfl <| lz <| l_q rfl (qfa 0 rfl yU66 rfl rfl yS3) <| l_q rfl (qld rfl yA3) ?_
                        refine l_q rfl (qi rfl rfl (b_eql ·)) <| mv rfl rfl ?_
                        rw [hbit]
                        refine l_pt (t := 156) rfl (fun a1 => ?_) fun a1 => ?_
                        · refine l_on rfl rfl <| l_q rfl (qfa 0 rfl yU66 rfl rfl yS3) <| l_on rfl rfl <| l_q rfl (qld rfl yA3) ?_
                          refine l_on rfl rfl <| l_q rfl (qi rfl rfl (b_eql ·)) <| l_on rfl rfl <| mv rfl rfl <| l_pt (t := 160) rfl (fun a2 => ?_) fun a2 => ?_
                          · refine l_on rfl rfl <| mv rfl rfl <| l_on rfl rfl <| l_q rfl (qi rfl rfl (b_neq ·)) <| l_on rfl rfl <| l_q rfl (q_pk rfl rfl) <| l_on rfl rfl <| mv rfl rfl <| l_pt (t := 164) rfl (fun a3 => ?_) fun a3 => ?_
                            · exfalso
                              rcases hDX with ⟨q, _⟩ | ⟨q, _⟩
                              · exact a3 q
                              · rw [q] at a2; cases a2
                            · refine l_on rfl rfl <| l_q rfl (qfa 0 rfl yU66 rfl rfl yS3) <| l_on rfl rfl <| l_q rfl (qld rfl yA3) ?_
                              refine l_on rfl rfl <| l_q rfl (qi rfl rfl (b_eql ·)) <| l_on rfl rfl <| mv rfl rfl <| l_pt (t := 168) rfl (fun a4 => ?_) fun a4 => ?_
                              · exfalso
                                rcases hDX with ⟨_, q⟩ | ⟨q, _⟩
                                · rw [q] at a4; cases a4
                                · rw [q] at a2; cases a2
                              · refine l_off rfl rfl rfl rfl <| l_off rfl rfl rfl rfl <| l_on rfl rfl <| l_q rfl (q_pk rfl rfl) <| l_on rfl rfl <| l_q rfl (q_pk rfl rfl) <| l_q rfl (q_pk rfl rfl) <| lc <| t_cond_f rfl <| t_skip <| n_blk <| n_code <| t_region <| mv rfl rfl <| l_q rfl (qadd rfl rfl) ?_
                                refine asg rfl rfl <| l_nil ?_
                                apply n_again ((i + 1))
                                · exact by omega
                                · omega
                                · exact ⟨rfl, rfl, rfl, rfl, rfl, rfl, rfl, trivial⟩
                                · exact en
                          · refine l_off rfl rfl rfl rfl <| l_off rfl rfl rfl rfl <| l_on rfl rfl <| l_q rfl (q_pk rfl rfl) <| l_on rfl rfl <| mv rfl rfl <| l_on rfl rfl <| l_q rfl (qfa 0 rfl yU66 rfl rfl yS3) <| l_on rfl rfl <| l_q rfl (qld rfl yA3) ?_
                            refine l_on rfl rfl <| l_q rfl (qi rfl rfl (b_eql ·)) <| l_on rfl rfl <| mv rfl rfl <| l_pt (t := 168) rfl (fun a4 => ?_) fun a4 => ?_
                            · refine l_on rfl rfl <| mv rfl rfl <| l_on rfl rfl <| l_q rfl (qi rfl rfl (b_neq ·)) <| l_on rfl rfl <| l_q rfl (q_pk rfl rfl) <| l_on rfl rfl <| l_q rfl (q_pk rfl rfl) <| l_q rfl (q_pk rfl rfl) <| lc <| t_pt (t := 173) rfl (fun a5 => ?_) fun a5 => ?_
                              · exfalso
                                rcases hDX with ⟨_, q⟩ | ⟨_, q⟩
                                · rw [q] at a4; cases a4
                                · exact a5 q
                              · refine t_cond_f rfl <| t_skip <| n_blk <| n_code <| t_region <| mv rfl rfl <| l_q rfl (qadd rfl rfl) ?_
                                refine asg rfl rfl <| l_nil ?_
                                apply n_again ((i + 1))
                                · exact by omega
                                · omega
                                · exact ⟨rfl, rfl, rfl, rfl, rfl, rfl, rfl, trivial⟩
                                · exact en
                            · refine l_off rfl rfl rfl rfl <| l_off rfl rfl rfl rfl <| l_on rfl rfl <| l_q rfl (q_pk rfl rfl) <| l_on rfl rfl <| l_q rfl (q_pk rfl rfl) <| l_q rfl (q_pk rfl rfl) <| lc <| t_cond_f rfl <| t_skip <| n_blk <| n_code <| t_region <| mv rfl rfl <| l_q rfl (qadd rfl rfl) ?_
                              refine asg rfl rfl <| l_nil ?_
                              apply n_again ((i + 1))
                              · exact by omega
                              · omega
                              · exact ⟨rfl, rfl, rfl, rfl, rfl, rfl, rfl, trivial⟩
                              · exact en
                        · refine l_off rfl rfl rfl rfl <| l_off rfl rfl rfl rfl <| l_off rfl rfl rfl rfl <| l_off rfl rfl rfl rfl <| l_offu rfl rfl rfl <| l_offu rfl rfl rfl <| l_off rfl rfl rfl rfl <| l_off rfl rfl rfl rfl <| l_offu rfl rfl rfl <| l_offu rfl rfl rfl <| l_offu rfl rfl rfl <| l_offu rfl rfl rfl <| l_offu rfl rfl rfl <| l_offu rfl rfl rfl <| l_offu rfl rfl rfl <| l_off rfl rfl rfl rfl <| l_q rfl (q_pk rfl rfl) <| lc <| t_cond_f rfl <| t_skip <| n_blk <| n_code <| t_region <| mv rfl rfl <| l_q rfl (qadd rfl rfl) ?_
                          refine asg rfl rfl <| l_nil ?_
                          apply n_again ((i + 1))
                          · exact by omega
                          · omega
                          · exact ⟨rfl, rfl, rfl, rfl, rfl, rfl, rfl, trivial⟩
                          · exact en
                      · refine xt rfl <| nz <| l_q rfl (qlda rfl yA34 yS34) ?_
                        refine l_q rfl (qfa 2 rfl yU34 rfl rfl yS32) <| l_q rfl (qlda rfl yA32 yS32) ?_
                        refine lc1 rfl rfl rfl (picture_ok pa po off (nOf size) (eOf size) (off : Nat) s2 T hO2 hblk (by omega)) ?_
                        refine mv rfl rfl <| l_q rfl (qs rfl rfl (b_eqlS ·)) <| asg rfl rfl <| lc <| rt <| fr1 rfl ([G]) (.tmp rfl) ?_
                        exact ⟨by rw [hpic, decide_eq_true rfl], rfl⟩
end Go.Proofs.YtmdangoaomppdaaGreatDoor.Grow
