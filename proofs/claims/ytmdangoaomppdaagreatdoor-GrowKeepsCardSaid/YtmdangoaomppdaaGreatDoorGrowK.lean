/- GrowKeeps answers true. -/
import Derived.Test.YtmdangoaomppdaaGreatDoorGrowN
import Derived.Test.YtmdangoaomppdaaGreatDoorGrowP
set_option linter.unusedVariables false
set_option linter.unusedSimpArgs false
set_option maxRecDepth 100000
namespace Go.Proofs.YtmdangoaomppdaaGreatDoor.Grow
open Go.RowKit Go.Proofs Go.Proofs.YtmdangoaomppdaaGreatDoor.Eng Go.Proofs.YtmdangoaomppdaaGreatDoor.Ty Go.Proofs.YtmdangoaomppdaaGreatDoor.Bits Go.Proofs.YtmdangoaomppdaaGreatDoor.Mem Go.Proofs.YtmdangoaomppdaaGreatDoor.Search Go.Proofs.YtmdangoaomppdaaGreatDoor.Arena Go.Proofs.YtmdangoaomppdaaGreatDoor.CtrlB Go.Proofs.YtmdangoaomppdaaGreatDoor.Ctrl Go.Proofs.YtmdangoaomppdaaGreatDoor.Layout Go.Proofs.YtmdangoaomppdaaGreatDoor.GroupB Go.Proofs.YtmdangoaomppdaaGreatDoor.Group Go.Proofs.YtmdangoaomppdaaGreatDoor.Probe Go.Proofs.YtmdangoaomppdaaGreatDoor.TableB Go.Proofs.YtmdangoaomppdaaGreatDoor.TableI Go.Proofs.YtmdangoaomppdaaGreatDoor.Table Go.Proofs.YtmdangoaomppdaaGreatDoor.Bench Go.Proofs.YtmdangoaomppdaaGreatDoor.Cells Go.Proofs.YtmdangoaomppdaaGreatDoor.Refill Go.Proofs.YtmdangoaomppdaaGreatDoor.Oracle Go.Proofs.YtmdangoaomppdaaGreatDoor.Ref03

/-- What two tables more take. -/
theorem cls_fit (size : Int) : (64 + classI ((nOf size * gN l64 : Nat) : Int)) + (64 + classI ((nOf size * gN l64 : Nat) : Int)) + (64 + classI ((2 * nOf size * gN l64 : Nat) : Int)) ≤ 65536 ∧ 0 ≤ classI ((nOf size * gN l64 : Nat) : Int) ∧ 0 ≤ classI ((2 * nOf size * gN l64 : Nat) : Int) := by
  have := eOf_le size
  rw [gN64]
  unfold nOf
  have : eOf size = 1 ∨ eOf size = 2 ∨ eOf size = 3 := by omega
  rcases this with e | e | e <;> rw [e] <;> decide
/-- A table made anew, where there is room. -/
def Anewed (pa off po bm n e N E : Nat) (s : ArS) (T : Tb) (m : List (ByteArray × Value)) (sd : Int) (G : HP) (v : Value) (L : List HP) : Prop :=
  ∃ s' U lives, v = .tuple #[.agg #[.pointer (some ⟨pa, 0, none⟩), .int .i64 l64.key, .int .i64 l64.elem, .int .i64 l64.ka, .int .i64 l64.ea, .int .i64 l64.cap, .int .i64 l64.eo, .int .i64 l64.bo, .int .i64 l64.slot, .int .i64 l64.group, .int .i64 ((s.stop : Nat) : Int)], .int .i64 0] ∧ L = [pt po (.cells #[.map (some bm)] 151 (0, 0)), mapH (fun k : ByteArray => Value.string k) bm m, G, arenaH pa s'] ∧ TabP s' s.stop (s.stop + 64) l64 N E U ∧ RF (hashF m sd) T.cells (8 * n) N U lives (cnt isFull T.cells (8 * n)) ∧ NewS s s' (64 + classI ((N * gN l64 : Nat) : Int)) ∧ Keeps (newT N T.depth) U ∧ TabP s' off (off + 64) l64 n e T
theorem Anew.fits {pa off po bm n e N E : Nat} {s : ArS} {T : Tb} {m : List (ByteArray × Value)} {sd : Int} {G : HP} {v : Value} {L : List HP} (h : Anew pa off po bm n e N E s l64 T m sd G v L) (h1 : ((N * gN l64 : Nat) : Int) ≤ 1048576) (h2 : s.live + (64 + classI ((N * gN l64 : Nat) : Int)) ≤ s.limit) : Anewed pa off po bm n e N E s T m sd G v L := by
  rcases h with ⟨hb, _⟩ | ⟨_, _, h⟩
  · omega
  · exact h
theorem GrowKeeps_ok (G : HP) (hGT : TabOk G) (hGO : OddOk G) (seed size depth : Int) (vh vs : Value) (hs : List Int) (ts : List (Int × Int × Bool)) (hL : LifeAt G seed size depth vh vs hs ts) :
    FnOk Tryz.prog 3 #[.agg #[.int .u64 seed, .int .i64 size, .int .i64 depth, vh, vs]] [G] (fun v L => v = .bool true ∧ L = [G]) := by
  obtain ⟨hfit, hc1, hc2⟩ := cls_fit size
  have hn2 := nOf_le size
  have hm := osOf_ok hL.hashWf
  have hd1 := Int.emod_nonneg depth (show (6 : Int) ≠ 0 by decide)
  have hd2 := Int.emod_lt_of_pos depth (show (0 : Int) < 6 by decide)
  refine fn_intro en3 Tryz.func3 rfl rfl rfl fun Fr w0 => t_nm ?_
  refine sr <| o_boxA rfl rfl fun b1 => asg rfl rfl <| lz <| l_q rfl (qlda rfl yA26 yS26) ?_
  refine lcf rfl rfl rfl (live_ok G hGT hGO seed size depth vh vs hs ts hL 65536 (by decide) (by omega)) ?_
  rintro v L' ⟨pa, po, bm, off, s, T, rfl, rfl, hW, hl, hv, hK⟩
  refine l_nm ?_
  refine mv rfl rfl <| l_q rfl (q_extractL rfl ga) ?_
  refine l_q rfl (q_extractL rfl ga) ?_
  refine o_allocA rfl yZ34 fun b3 => sta rfl rfl rfl yS34 rfl rfl ?_
  refine asg rfl rfl <| lc <| t_seq <| sr <| mv rfl rfl <| l_q rfl (q_un rfl (u_not ·)) <| lc <| t_if rfl (fun z1 => ?_) fun z1 => ?_
  · simp at z1
  · refine t_skip <| nz <| l_q rfl (qlda rfl yA34 yS34) ?_
    refine l_q rfl (qfa 2 rfl yU34 rfl rfl yS32) <| l_q rfl (qlda rfl yA32 yS32) ?_
    refine l_pure (φ := s.ok) (fun w hw => arena_ok (pa := pa) hw tk) fun hok0 => ?_
    have hdT : 0 ≤ T.depth ∧ T.depth ≤ 6 := by rw [hK.depth]; show 0 ≤ depth % 6 ∧ depth % 6 ≤ 6; omega
    have hsm1 : ((nOf size * gN l64 : Nat) : Int) ≤ 1048576 := by rw [gN64]; omega
    have hsm2 : ((2 * nOf size * gN l64 : Nat) : Int) ≤ 1048576 := by rw [gN64]; omega
    have hend := goodP.end_le hok0 hW.tab.gh
    have hst := hok0.stop_eq
    refine lc1 rfl rfl rfl (picture_ok pa po off (nOf size) (eOf size) (off : Nat) s T hW.tab hW.blk (by omega)) ?_
    refine asg rfl rfl <| lz <| l_q rfl (qfa 2 rfl yU34 rfl rfl yS32) <| l_q rfl (qlda rfl yA32 yS32) ?_
    refine lc1 rfl rfl rfl (StatP_ok pa off (off + 64) (nOf size) (eOf size) s l64 T hW.tab) ?_
    refine mv rfl rfl <| l_q rfl (q_extractL rfl ga) ?_
    refine l_q rfl (q_extractL rfl ga) ?_
    refine o_allocA rfl yZ39 fun b6 => sta rfl rfl rfl yS39 rfl rfl ?_
    refine asg rfl rfl <| lz <| l_q rfl (qfa 2 rfl yU34 rfl rfl yS32) <| l_q rfl (qlda rfl yA32 yS32) ?_
    refine l_q rfl (qfa 1 rfl yU34 rfl rfl yS28) <| l_q rfl (qld rfl yA28) ?_
    refine l_q rfl (qfa 0 rfl yU26 rfl rfl yS22) <| l_q rfl (qld rfl yA22) ?_
    refine lcf rfl rfl rfl (FnOk.mono (Renew_ok G hGT hGO pa off po bm (nOf size) (eOf size) (nOf size) (eOf size) s l64 T _ hm seed hL.seed hW.tab hW.lt hdT) (fun v L h => Anew.fits h hsm1 (by omega))) ?_
    rintro v L' ⟨s1, U1, lives1, rfl, rfl, hT1, hR1, hN1, hK1, hO1⟩
    refine l_nm ?_
    refine mv rfl rfl <| l_q rfl (q_extractL rfl ga) ?_
    refine l_q rfl (q_extractL rfl ga) ?_
    refine o_allocA rfl yZ32 fun b8 => sta rfl rfl rfl yS32 rfl rfl ?_
    refine asg rfl rfl <| lz <| l_q rfl (qfa 2 rfl yU34 rfl rfl yS32) <| l_q rfl (qlda rfl yA32 yS32) ?_
    refine l_q rfl (qfa 1 rfl yU34 rfl rfl yS28) <| l_q rfl (qld rfl yA28) ?_
    refine l_q rfl (qfa 0 rfl yU26 rfl rfl yS22) <| l_q rfl (qld rfl yA22) ?_
    have hl1 := hN1.live
    have hli1 := hN1.limit
    refine l_pure (φ := s1.ok) (fun w hw => arena_ok (pa := pa) hw tk) fun hok1 => ?_
    have hst1 := hok1.stop_eq
    refine lcf rfl rfl rfl (FnOk.mono (Double_ok G hGT hGO pa off po bm (nOf size) (eOf size) (2 * nOf size) (eOf size + 1) s1 l64 T _ hm seed hL.seed hO1 hW.lt rfl hdT (by unfold nOf; rw [Nat.pow_succ]; omega) (by have := eOf_le size; omega)) (fun v L h => Anew.fits h hsm2 (by omega))) ?_
    rintro v L' ⟨s2, U2, lives2, rfl, rfl, hT2, hR2, hN2, hK2, hO2⟩
    refine l_nm ?_
    refine mv rfl rfl <| l_q rfl (q_extractL rfl ga) ?_
    refine l_q rfl (q_extractL rfl ga) ?_
    refine o_allocA rfl yZ32 fun b10 => sta rfl rfl rfl yS32 rfl rfl ?_
    refine asg rfl rfl <| lc <| t_seq <| t_seq <| t_draw mixed ?_
    apply dq 0 rfl
    · exact yq (q_move rfl)
    apply dq 1 rfl
    · exact yq (qi rfl rfl (b_neq ·))
    apply dq 2 rfl
    · exact yq (q_move rfl)
    have hT1' := TabP.newS hT1 hok1 hN2
    have hblk : (((off + 64 : Nat) : Int), classI ((nOf size * gN l64 : Nat) : Int)) ∈ s2.bl := by rw [hN2.bl, hN1.bl]; exact List.mem_append.2 (.inl (List.mem_append.2 (.inl hW.blk)))
    have hgg := goodP.end_le hok0 (off := ((off + 64 : Nat) : Int)) (n := classI ((nOf size * gN l64 : Nat) : Int)) ⟨hc1, _, hW.blk, Int.le_refl _, Int.le_refl _⟩
    have hpic : picS s2.m off (nOf size) = picS s.m off (nOf size) := picS_congr (fun a h1 h2 => by rw [hN2.m a (by omega), hN1.m a (by omega)]) (fun a h1 h2 => by rw [hN2.m a (by omega), hN1.m a (by omega)])
    obtain ⟨hu1, hu2, _, _⟩ := hR1.counts
    obtain ⟨hv1, hv2, _, _⟩ := hR2.counts
    have hfull := cnt_le isFull T.cells (8 * nOf size)
    refine d_pt (t := 51) rfl (fun c1 => ?_) fun c1 => ?_
    · exact absurd rfl c1
    · apply dq 3 rfl
      · exact yq_on rfl rfl (q_move rfl)
      apply dq 4 rfl
      · exact yq_on rfl rfl (qi rfl rfl (b_neq ·))
      apply dq 5 rfl
      · exact yq (q_pk rfl rfl)
      apply dq 6 rfl
      · exact yq (q_move rfl)
      refine d_pt (t := 55) rfl (fun c2 => ?_) fun c2 => ?_
      · exact absurd rfl c2
      · apply dq 7 rfl
        · exact yq_on rfl rfl (q_move rfl)
        apply dq 8 rfl
        · exact yq_on rfl rfl (qi rfl rfl (b_neq ·))
        apply dq 9 rfl
        · exact yq (q_pk rfl rfl)
        apply dq 10 rfl
        · exact yq (q_move rfl)
        refine d_pt (t := 59) rfl (fun c3 => ?_) fun c3 => ?_
        · exact absurd rfl c3
        · apply dq 11 rfl
          · exact yq_on rfl rfl (q_move rfl)
          apply dq 12 rfl
          · exact yq_on rfl rfl (qs rfl rfl (b_eqlS ·))
          apply dq 13 rfl
          · exact yq (q_pk rfl rfl)
          apply dq 14 rfl
          · exact yq (q_move rfl)
          refine d_pt (t := 63) rfl (fun c4 => ?_) fun c4 => ?_
          · exact absurd c4 (picS_ne _ _ _)
          · apply dq 15 rfl
            · exact yq_on rfl rfl (qlda rfl yA32 yS32)
            apply dq 17 rfl
            · exact yq_on rfl rfl (qfa 2 rfl yU34 rfl rfl yS32)
            apply dq 18 rfl
            · exact yq_on rfl rfl (qlda rfl yA32 yS32)
            refine d_eff1 [15, 14, 13, 10, 12, 9, 6, 11, 8, 5, 2, 7, 4, 1, 3, 0] [18, 17] 16 [(64, _), (63, _)] gO ⟨rfl, rfl, trivial⟩ (by kernel_rfl) (by kernel_rfl) fun Ex => ?_
            refine l_on rfl rfl <| lc1 rfl rfl rfl (TOff_ok pa l64 (s.stop : Nat)) ?_
            refine l_nil ?_
            apply n_d
            · refine ⟨?_, ?_, trivial⟩
              · apply ya rfl rfl; exact yq_on rfl rfl (qlda rfl yA32 yS32)
              · apply ya rfl rfl; exact yq_on rfl rfl (qfa 2 rfl yU34 rfl rfl yS32)
            refine d_eff1 [18, 17] [] 19 [(67, _), (63, _)] gO ⟨rfl, rfl, trivial⟩ (by kernel_rfl) (by kernel_rfl) fun Ex => ?_
            refine l_on rfl rfl <| lc1 rfl rfl rfl (TOff_ok pa l64 (off : Nat)) ?_
            refine l_nil ?_
            apply n_d
            · exact trivial
            apply dq 20 rfl
            · exact yq_on rfl rfl (qi rfl rfl (b_eql ·))
            apply dq 21 rfl
            · exact yq (q_pk rfl rfl)
            apply dq 22 rfl
            · exact yq (q_move rfl)
            refine d_pt (t := 71) rfl (fun c5 => ?_) fun c5 => ?_
            · omega
            · apply dq 23 rfl
              · exact yq_on rfl rfl (qlda rfl yA32 yS32)
              apply dq 25 rfl
              · exact yq_on rfl rfl (qfa 2 rfl yU34 rfl rfl yS32)
              apply dq 26 rfl
              · exact yq_on rfl rfl (qlda rfl yA32 yS32)
              refine d_eff1 [23, 22, 21, 20] [26, 25] 24 [(72, _), (71, _)] gO ⟨rfl, rfl, trivial⟩ (by kernel_rfl) (by kernel_rfl) fun Ex => ?_
              refine l_on rfl rfl <| lc1 rfl rfl rfl (TOff_ok pa l64 (s1.stop : Nat)) ?_
              refine l_nil ?_
              apply n_d
              · refine ⟨?_, ?_, trivial⟩
                · apply ya rfl rfl; exact yq_on rfl rfl (qlda rfl yA32 yS32)
                · apply ya rfl rfl; exact yq_on rfl rfl (qfa 2 rfl yU34 rfl rfl yS32)
              refine d_eff1 [26, 25] [] 27 [(75, _), (71, _)] gO ⟨rfl, rfl, trivial⟩ (by kernel_rfl) (by kernel_rfl) fun Ex => ?_
              refine l_on rfl rfl <| lc1 rfl rfl rfl (TOff_ok pa l64 (off : Nat)) ?_
              refine l_nil ?_
              apply n_d
              · exact trivial
              apply dq 28 rfl
              · exact yq_on rfl rfl (qi rfl rfl (b_eql ·))
              apply dq 29 rfl
              · exact yq (q_pk rfl rfl)
              apply dq 30 rfl
              · exact yq (q_move rfl)
              refine d_pt (t := 79) rfl (fun c6 => ?_) fun c6 => ?_
              · omega
              · apply dq 31 rfl
                · exact yq_on rfl rfl (qlda rfl yA32 yS32)
                apply dq 33 rfl
                · exact yq_on rfl rfl (qlda rfl yA32 yS32)
                refine d_eff1 [31, 30, 29, 28] [33] 32 [(80, _), (79, _)] gO ⟨rfl, rfl, trivial⟩ (by kernel_rfl) (by kernel_rfl) fun Ex => ?_
                refine l_on rfl rfl <| lc1 rfl rfl rfl (TOff_ok pa l64 (s.stop : Nat)) ?_
                refine l_nil ?_
                apply n_d
                · refine ⟨?_, trivial⟩
                  · apply ya rfl rfl; exact yq_on rfl rfl (qlda rfl yA32 yS32)
                refine d_eff1 [33] [] 34 [(82, _), (79, _)] gO ⟨rfl, rfl, trivial⟩ (by kernel_rfl) (by kernel_rfl) fun Ex => ?_
                refine l_on rfl rfl <| lc1 rfl rfl rfl (TOff_ok pa l64 (s1.stop : Nat)) ?_
                refine l_nil ?_
                apply n_d
                · exact trivial
                apply dq 35 rfl
                · exact yq_on rfl rfl (qi rfl rfl (b_eql ·))
                apply dq 36 rfl
                · exact yq (q_pk rfl rfl)
                refine d_end (by kernel_rfl) ?_
                refine n_code <| t_if rfl (fun c7 => ?_) fun c7 => ?_
                · omega
                · refine t_skip <| n_code <| t_seq <| sr <| l_q rfl (qlda rfl yA32 yS32) ?_
                  refine l_q rfl (qfa 1 rfl yU39 rfl rfl yS3) <| l_q rfl (qld rfl yA3) ?_
                  refine l_q rfl (qfa 3 rfl yU39 rfl rfl yS3) <| l_q rfl (qld rfl yA3) ?_
                  refine lc1 rfl rfl rfl (fresh_ok pa s.stop (nOf size) (eOf size) s2 U1 hT1' _ _ rfl hK1.depth (by omega) hK1.pins hK1.next hK1.kind (by omega)) ?_
                  refine l_q rfl (q_un rfl (u_not ·)) <| mv rfl rfl <| l_pt (t := 93) rfl (fun d1 => ?_) fun d1 => ?_
                  · simp at d1
                  · refine l_on rfl rfl <| l_q rfl (qlda rfl yA32 yS32) ?_
                    refine l_on rfl rfl <| l_q rfl (qfa 1 rfl yU39 rfl rfl yS3) <| l_on rfl rfl <| l_q rfl (qld rfl yA3) ?_
                    refine l_on rfl rfl <| l_q rfl (qmul rfl rfl) ?_
                    refine l_on rfl rfl <| l_q rfl (qfa 3 rfl yU39 rfl rfl yS3) <| l_on rfl rfl <| l_q rfl (qld rfl yA3) ?_
                    refine l_on rfl rfl <| lc1 rfl rfl rfl (fresh_ok pa s1.stop (2 * nOf size) (eOf size + 1) s2 U2 hT2 _ _ (by omega) hK2.depth (by omega) hK2.pins hK2.next hK2.kind (by omega)) ?_
                    refine l_on rfl rfl <| l_q rfl (q_un rfl (u_not ·)) <| l_q rfl (q_pk rfl rfl) <| lc <| t_if rfl (fun d2 => ?_) fun d2 => ?_
                    · simp at d2
                    · refine t_skip <| nz <| l_q rfl (qlda rfl yA34 yS34) ?_
                      refine l_q rfl (qlda rfl yA26 yS26) ?_
                      refine l_q rfl (qfa 2 rfl yU34 rfl rfl yS32) <| l_q rfl (qlda rfl yA32 yS32) ?_
                      refine l_q rfl (qlda rfl yA32 yS32) ?_
                      refine l_q rfl (qlda rfl yA32 yS32) ?_
                      refine lc1 rfl rfl rfl (holds_ok G hGT hGO pa po bm off (nOf size) (eOf size) s2 T _ hm seed hL.seed size depth vh vs (off : Nat) hO2 hW.lt s.stop (nOf size) (eOf size) U1 lives1 hT1' hR1) ?_
                      refine mv rfl rfl <| l_pt (t := 110) rfl (fun e1 => ?_) fun e1 => ?_
                      · refine l_on rfl rfl <| l_q rfl (qlda rfl yA34 yS34) ?_
                        refine l_on rfl rfl <| l_q rfl (qlda rfl yA26 yS26) ?_
                        refine l_on rfl rfl <| l_q rfl (qfa 2 rfl yU34 rfl rfl yS32) <| l_on rfl rfl <| l_q rfl (qlda rfl yA32 yS32) ?_
                        refine l_on rfl rfl <| l_q rfl (qlda rfl yA32 yS32) ?_
                        refine l_on rfl rfl <| l_q rfl (qlda rfl yA32 yS32) ?_
                        refine l_on rfl rfl <| lc1 rfl rfl rfl (holds_ok G hGT hGO pa po bm off (nOf size) (eOf size) s2 T _ hm seed hL.seed size depth vh vs (off : Nat) hO2 hW.lt s1.stop (2 * nOf size) (eOf size + 1) U2 lives2 hT2 hR2) ?_
                        refine l_q rfl (q_pk rfl rfl) <| mv rfl rfl <| l_pt (t := 119) rfl (fun e2 => ?_) fun e2 => ?_
                        · refine l_on rfl rfl <| l_q rfl (qlda rfl yA34 yS34) ?_
                          refine l_on rfl rfl <| l_q rfl (qfa 2 rfl yU34 rfl rfl yS32) <| l_on rfl rfl <| l_q rfl (qlda rfl yA32 yS32) ?_
                          refine l_on rfl rfl <| lc1 rfl rfl rfl (picture_ok pa po off (nOf size) (eOf size) (off : Nat) s2 T hO2 hblk (by omega)) ?_
                          refine l_on rfl rfl <| mv rfl rfl <| l_on rfl rfl <| l_q rfl (qs rfl rfl (b_eqlS ·)) <| l_q rfl (q_pk rfl rfl) <| asg rfl rfl <| lc <| rt <| fr1 rfl ([G]) (.tmp rfl) ?_
                          exact ⟨by rw [hpic, decide_eq_true rfl], rfl⟩
                        · cases e2
                      · cases e1
end Go.Proofs.YtmdangoaomppdaaGreatDoor.Grow
