/- SmallRanges answers true. -/
import Derived.Test.YtepkcjfmdenkcaaGreatDoorSHolds
import Derived.Test.YtepkcjfmdenkcaaGreatDoorSmallC
set_option linter.unusedVariables false
set_option linter.unusedSimpArgs false
set_option maxRecDepth 100000
namespace Go.Proofs.YtepkcjfmdenkcaaGreatDoor.BenchS
open Go.RowKit Go.Proofs Go.Proofs.YtepkcjfmdenkcaaGreatDoor.Eng Go.Proofs.YtepkcjfmdenkcaaGreatDoor.Ty Go.Proofs.YtepkcjfmdenkcaaGreatDoor.Bits Go.Proofs.YtepkcjfmdenkcaaGreatDoor.Mem Go.Proofs.YtepkcjfmdenkcaaGreatDoor.Layout Go.Proofs.YtepkcjfmdenkcaaGreatDoor.GroupB Go.Proofs.YtepkcjfmdenkcaaGreatDoor.Group Go.Proofs.YtepkcjfmdenkcaaGreatDoor.TableB Go.Proofs.YtepkcjfmdenkcaaGreatDoor.TableI Go.Proofs.YtepkcjfmdenkcaaGreatDoor.CtrlB Go.Proofs.YtepkcjfmdenkcaaGreatDoor.Ctrl Go.Proofs.YtepkcjfmdenkcaaGreatDoor.Small Go.Proofs.YtepkcjfmdenkcaaGreatDoor.Arena Go.Proofs.YtepkcjfmdenkcaaGreatDoor.Oracle Go.Proofs.YtepkcjfmdenkcaaGreatDoor.Ref03 Go.Proofs.YtepkcjfmdenkcaaGreatDoor.Ref11 Go.Proofs.YtepkcjfmdenkcaaGreatDoor.Cells

theorem SmallRanges_ok (G : HP) (hGT : TabOk G) (hGO : OddOk G) (vf vo vt : Value) (sd : Int) (hsd : 0 ≤ sd ∧ sd < 18446744073709551616) (xs : List Int) (os : List (ByteArray × Int)) (ts : List (Int × Int × Int)) (hA : IntsAt G vf xs) (hO : OversAt G vo os) (hn0 : ∀ n c, vo = .slice none n c → c = 0 ∧ os = []) (how : ∀ o ∈ os, 0 ≤ o.2 ∧ o.2 < 18446744073709551616) (hT : TurnsAt G vt ts) (hmt : ts.length ≤ maxLen) (stop : Int) :
    FnOk Tryz.prog 3 #[.agg #[vf, vo, .int .u64 sd, vt], .int .i64 stop] [G] (fun v L => v = .bool true ∧ L = [G]) := by
  simp only [maxLen] at hmt
  obtain ⟨ta, tcap, rfl, hT0⟩ := hT
  refine fn_intro en3 Tryz.func3 rfl rfl rfl fun Fr w0 => t_nm ?_
  refine sr <| o_boxA rfl rfl fun b2 => o_box1 rfl rfl rfl fun b3 => o_alloc1 rfl yZ4 rfl fun b4 => lz <| l_q rfl (qlda rfl yA27 yS27) ?_
  refine lcf rfl rfl rfl (bench_ok G vf vo _ sd xs os hA hO hn0 65536 (by omega) (fun hl => fit16 hl)) ?_
  rintro v L' (⟨rfl, rfl⟩ | ⟨pa, pb, po, bm, off, l, s0, m, _, hl, hgo, hm0, rfl, rfl, hP0⟩)
  refine l_nm ?_
  · skip
    refine l_nm ?_
    refine mv rfl rfl <| l_q rfl (q_extractL rfl ga) ?_
    refine l_q rfl (q_extractL rfl ga) ?_
    refine l_q rfl (q_extractL rfl ga) ?_
    refine o_alloc1 rfl yZ28 rfl fun b5 => st rfl rfl rfl yS28 rfl ?_
    refine asg rfl rfl <| asg rfl rfl <| lc <| t_seq <| sr <| mv rfl rfl <| l_q rfl (q_un rfl (u_not ·)) <| lc <| t_if rfl (fun p1 => ?_) fun p1 => ?_
    · refine sr <| st rfl rfl rfl yS4 rfl ?_
      refine lc <| rt ?_
      apply f_ret (.inl rfl) ([G])
      · apply res1 rfl
        · apply Rv.cellL rfl
          · exact tk
          · exact ga
          · exact yA4
      · exact ⟨rfl, rfl⟩
      · exact en
    · cases p1
  · have hm : OverOk m := by rw [hm0]; exact mapO_ok how
    have hS0 : SB (tgF m sd) newS := SB.new
    refine l_nm ?_
    refine mv rfl rfl <| l_q rfl (q_extractL rfl ga) ?_
    refine l_q rfl (q_extractL rfl ga) ?_
    refine l_q rfl (q_extractL rfl ga) ?_
    refine o_alloc1 rfl yZ28 rfl fun b5 => st rfl rfl rfl yS28 rfl ?_
    refine asg rfl rfl <| asg rfl rfl <| lc <| t_seq <| sr <| mv rfl rfl <| l_q rfl (q_un rfl (u_not ·)) <| lc <| t_if rfl (fun p1 => ?_) fun p1 => ?_
    · cases p1
    · refine t_skip <| n_code <| t_seq <| sr <| mv rfl rfl <| l_q rfl (q_un rfl (u_not ·)) <| lc <| t_if rfl (fun p2 => ?_) fun p2 => ?_
      · cases p2
      · refine t_skip <| n_code <| t_seq <| sr <| l_q rfl (qfa 3 rfl yU27 rfl rfl yS25) <| l_q rfl (qld rfl yA25) ?_
        refine l_q rfl (ql rfl yU25) <| mv rfl rfl <| lc <| t_block ?_
        refine t_loop (fun x : Nat × ArS × Sm × Nat => x.1 ≤ ts.length ∧ SmP x.2.1 off l x.2.2.1 ∧ SB (tgF m sd) x.2.2.1 ∧ 2 * (x.2.2.2 : Int) - x.2.2.1.used ≤ x.1) (fun x => [(2, .pointer (some ⟨b2, 0, none⟩)), (3, .pointer (some ⟨b3, 0, none⟩)), (4, .pointer (some ⟨b4, 0, none⟩)), (5, .pointer (some ⟨b5, 0, none⟩)), (36, .slice ta ts.length tcap), (37, .int .i64 (ts.length : Nat)), (38, .int .i64 (x.1 : Nat))]) (fun x => pt b3 (.cells #[.int .i64 stop] 3 (0, 0)) :: pt b4 (.cells #[.bool false] 4 (0, 0)) :: pt b5 (.cells #[.pointer (some ⟨pb, 0, none⟩)] 28 (0, 0)) :: pt pb (.cells (bsc pa po l off vf vo sd (.slice ta ts.length tcap) x.2.2.1.cells x.2.2.2).toArray 44 (0, 0)) :: pt po (.cells #[.map (some bm)] 147 (0, 0)) :: mapH (fun k : ByteArray => Value.string k) bm m :: G :: arenaH pa x.2.1 :: Fr) (fun x => ts.length - x.1) (0, s0, newS, 0) ⟨Nat.zero_le _, hP0, hS0, by simp [newS]⟩ ⟨rfl, rfl, rfl, rfl, rfl, rfl, rfl, trivial⟩ (by (exact en)) ?_
        rintro ⟨i, s, S, ad⟩ ⟨hi, hP, hS, had⟩
        dsimp only at hi hP hS had ⊢
        have hu := hS.used_le
        refine sr <| l_q rfl (qi rfl rfl (b_lss ·)) <| lc <| t_seq <| t_if rfl (fun g1 => ?_) fun g1 => ?_
        · skip
          obtain ⟨tb, to, rfl, hT1⟩ := hT0 (by omega)
          obtain ⟨t, ht⟩ : ∃ t, ts[i]? = some t := ⟨ts[i], List.getElem?_eq_getElem (by omega)⟩
          have hcell := cell_turn hT1 ht
          refine t_skip <| n_code <| t_seq <| t_block <| sr <| l_q rfl (q_indexAddr rfl rfl yU25 yS32 (by omega)) ?_
          apply l_q rfl
          · apply q_loadRA (A := G) (us := [.int .i64 t.1, .int .i64 t.2.1, .int .i64 t.2.2]) rfl yA32 yS32 rfl
            · exact tk
            · exact hcell
          refine o_allocA rfl yZ32 fun b9 => sta rfl rfl rfl yS32 rfl rfl ?_
          refine lz <| l_q rfl (qld rfl yA28) ?_
          refine l_q rfl (qlda rfl yA32 yS32) ?_
          refine lcf rfl rfl rfl (turn_ok pb pa po bm off l vf vo _ sd m G hGT hGO hm hsd hl S ad s hP hS (by omega) t.1 t.2.1 t.2.2) ?_
          rintro v L' ⟨s', S', ad', rfl, rfl, hP', hS', _, had'⟩
          refine l_nm ?_
          refine l_q rfl (q_un rfl (u_not ·)) <| lc <| t_if rfl (fun g2 => ?_) fun g2 => ?_
          · cases g2
          · refine t_skip <| n_blk <| n_code <| t_region <| l_q rfl (qadd rfl rfl) ?_
            refine mv rfl rfl <| l_nil ?_
            apply n_again ((i + 1, s', S', ad'))
            · exact ⟨by dsimp only; omega, hP', hS', by dsimp only; omega⟩
            · dsimp only; omega
            · exact ⟨rfl, rfl, rfl, rfl, rfl, rfl, rfl, trivial⟩
            · exact en
        · refine xt rfl <| nz <| l_q rfl (qld rfl yA28) ?_
          refine l_q rfl (q_nilCheck rfl) <| l_q rfl (qfa 26 rfl yU44 rfl rfl yS42) <| l_q rfl (q_loadAgg rfl yA42 yS42 tk rfl bsc_cells) ?_
          refine o_allocA rfl yZ42 fun b10 => ?_
          apply o_storeAgg rfl rfl rfl yS42 rfl rfl
          · exact tk
          · rfl
          · exact arr8_set S.cells
          refine lz <| asg rfl rfl <| lc <| t_seq <| sr <| l_q rfl (qlda rfl yA42 yS42) ?_
          refine mv rfl rfl <| lc <| t_block ?_
          refine t_loop (fun i : Nat => i ≤ 8) (fun i => [(2, .pointer (some ⟨b2, 0, none⟩)), (3, .pointer (some ⟨b3, 0, none⟩)), (4, .pointer (some ⟨b4, 0, none⟩)), (5, .pointer (some ⟨b5, 0, none⟩)), (10, .pointer (some ⟨b10, 0, none⟩)), (11, .int .i64 (cnt isFull S.cells i : Nat)), (51, .agg (arr8 S.cells).toArray), (52, .int .i64 (i : Nat))]) (fun _ => pt b10 (.cells (arr8 S.cells).toArray 42 (0, 0)) :: pt b3 (.cells #[.int .i64 stop] 3 (0, 0)) :: pt b4 (.cells #[.bool false] 4 (0, 0)) :: pt b5 (.cells #[.pointer (some ⟨pb, 0, none⟩)] 28 (0, 0)) :: pt pb (.cells (bsc pa po l off vf vo sd (.slice ta ts.length tcap) S.cells ad).toArray 44 (0, 0)) :: pt po (.cells #[.map (some bm)] 147 (0, 0)) :: mapH (fun k : ByteArray => Value.string k) bm m :: G :: arenaH pa s :: Fr) (fun i => 8 - i) 0 (by decide) ⟨rfl, rfl, rfl, rfl, rfl, rfl, rfl, rfl, trivial⟩ (by (exact en)) ?_
          intro j hj
          have hcl := cnt_le isFull S.cells j
          have hcs := cnt_succ isFull S.cells j
          clear hP0 hS0
          refine sr <| l_q rfl (qi rfl rfl (b_lss ·)) <| lc <| t_seq <| t_if rfl (fun g3 => ?_) fun g3 => ?_
          · skip
            have hi8 : j < 8 := by omega
            refine t_skip <| n_code <| t_seq <| t_block <| sr <| l_q rfl (q_indexArr rfl rfl Tryz.underlying42 yA41 yS41 (by omega) (arr8_part rfl hi8)) ?_
            refine o_allocA rfl yZ41 fun b13 => sta rfl rfl rfl yS41 rfl rfl ?_
            refine lz <| l_q rfl (qfa 0 rfl yU41 rfl rfl yS3) <| l_q rfl (qld rfl yA3) ?_
            refine l_q rfl (qi rfl rfl (b_eql ·)) <| lc <| t_if rfl (fun x => ?_) fun x => ?_
            · refine t_region <| mv rfl rfl <| l_q rfl (qadd rfl rfl) ?_
              refine asg rfl rfl <| l_nil <| n_blk <| n_code <| t_region <| l_q rfl (qadd rfl rfl) ?_
              refine mv rfl rfl <| l_nil ?_
              rw [kind_full.1 x, if_pos rfl] at hcs
              apply n_again ((j + 1))
              · exact (show j + 1 ≤ 8 by omega)
              · omega
              · exact ⟨rfl, rfl, rfl, rfl, rfl, by rw [hcs]; rfl, rfl, rfl, trivial⟩
              · exact en
            · refine t_skip <| n_blk <| n_code <| t_region <| l_q rfl (qadd rfl rfl) ?_
              refine mv rfl rfl <| l_nil ?_
              rw [if_neg (fun e => x (kind_full.2 e))] at hcs
              apply n_again ((j + 1))
              · exact (show j + 1 ≤ 8 by omega)
              · omega
              · exact ⟨rfl, rfl, rfl, rfl, rfl, by rw [hcs]; rfl, rfl, rfl, trivial⟩
              · exact en
          · obtain rfl : j = 8 := by omega
            refine xt rfl <| nz <| o_alloc1 rfl yZ3 rfl fun b14 => o_alloc1 rfl yZ3 rfl fun b15 => st rfl rfl rfl yS3 rfl ?_
            refine st rfl rfl rfl yS3 rfl ?_
            refine lz <| l_q rfl (qld rfl yA28) ?_
            refine l_q rfl (q_nilCheck rfl) <| l_q rfl (qfa 11 rfl yU44 rfl rfl yS39) <| l_q rfl (qlda rfl yA39 yS39) ?_
            refine lcf rfl rfl rfl (SCells_ok pa off l) ?_
            rintro v L' ⟨bc, rfl, rfl⟩
            refine l_nm ?_
            refine o_alloc1 rfl yZ46 rfl fun b16 => st rfl rfl rfl yS46 rfl ?_
            refine lc <| t_seq <| sr <| l_q rfl (qld rfl yA46) ?_
            refine l_q rfl (q_bin rfl rfl (g_func ·) (b_eqlF0 · yU46)) <| lc <| t_cond_f rfl <| t_skip <| n_code <| t_seq <| sr <| l_q rfl (qld rfl yA46) ?_
            refine lc <| t_block ?_
            have hN := hP.hN
            have hbd := Lay.bnd hl
            apply t_rangeH (p := (fun k (x : ArS × Sm × Nat × Int) => SmP x.1 off l x.2.1 ∧ SB (tgF m sd) x.2.1 ∧ 2 * (x.2.2.1 : Int) - x.2.1.used ≤ (ts.length : Int) + 3 * (k : Int) ∧ ∀ i, i < 8 → cnt isFull S.cells i = k → x.2.2.2 < ((i : Nat) : Int))) (J := (fun k x => [pt b14 (.cells #[.int .i64 (k : Nat)] 3 (0, 0)), pt b15 (.cells #[.int .i64 x.2.2.2] 3 (0, 0)), pt b3 (.cells #[.int .i64 stop] 3 (0, 0)), pt b4 (.cells #[.bool false] 4 (0, 0)), pt b5 (.cells #[.pointer (some ⟨pb, 0, none⟩)] 28 (0, 0)), pt b16 (.cells #[.func (.func 32) #[] #[.pointer (some ⟨bc, 0, none⟩)]] 46 (0, 0)), pt b10 (.cells (arr8 S.cells).toArray 42 (0, 0)), pt pb (.cells (bsc pa po l off vf vo sd (.slice ta ts.length tcap) x.2.1.cells x.2.2.1).toArray 44 (0, 0)), pt po (.cells #[.map (some bm)] 147 (0, 0)), mapH (fun k : ByteArray => Value.string k) bm m, G, arenaH pa x.1])) (q := (fun k (y : Code × (ArS × Sm × Nat × Int)) => y.1 = .exit 4 ∧ ((k : Nat) : Int) + 1 = stop ∧ SmP y.2.1 off l y.2.2.1 ∧ SB (tgF m sd) y.2.2.1)) (Jx := (fun k y => [pt b14 (.cells #[.int .i64 (((k : Nat) : Int) + 1)] 3 (0, 0)), pt b15 (.cells #[.int .i64 y.2.2.2.2] 3 (0, 0)), pt b3 (.cells #[.int .i64 stop] 3 (0, 0)), pt b4 (.cells #[.bool false] 4 (0, 0)), pt b5 (.cells #[.pointer (some ⟨pb, 0, none⟩)] 28 (0, 0)), pt b16 (.cells #[.func (.func 32) #[] #[.pointer (some ⟨bc, 0, none⟩)]] 46 (0, 0)), pt b10 (.cells (arr8 S.cells).toArray 42 (0, 0)), pt pb (.cells (bsc pa po l off vf vo sd (.slice ta ts.length tcap) y.2.2.1.cells y.2.2.2.1).toArray 44 (0, 0)), pt po (.cells #[.map (some bm)] 147 (0, 0)), mapH (fun k : ByteArray => Value.string k) bm m, G, arenaH pa y.2.1])) (x0 := (s, S, ad, -1)) (hc := SCells_it pa off bc s l S hP) (hr := rfl) (hg := rfl)
            · exact pk
            · exact ⟨hP, hS, by dsimp only; omega, fun i _ _ => by dsimp only; omega⟩
            · (try dsimp only); (try simp only [Int.natCast_zero, Nat.sub_zero]); exact pk
            · (try dsimp only); (try simp only [Int.natCast_zero, Nat.sub_zero]); exact pk
            · rfl
            · exact cellsV_two
            · rintro l' rc Fr' w1 k x ⟨s1, S1, ad1, last⟩ hrd hpn hx ⟨hP1, hS1, hA1, hlast⟩
              obtain ⟨i1, hi8, hfi, hck, rfl⟩ := cellsV_at hx
              dsimp only at hP1 hS1 hA1 hlast ⊢
              have hl1 := hlast i1 hi8 hck
              have hu1 := hS1.used_le
              have hk8 := cnt_le isFull S.cells i1
              have hkind := kind_full.2 hfi
              have hnext : ∀ i, i < 8 → cnt isFull S.cells i = k + 1 → ((i1 : Nat) : Int) < ((i : Nat) : Int) := fun i hi hc => by
                rcases Nat.lt_or_ge i1 i with q | q
                · omega
                · have := cnt_mono (p := isFull) (cs := S.cells) q; omega
              refine t_nm ?_
              refine sr <| asg rfl rfl <| lr <| o_allocA rfl yZ41 fun b18 => sta rfl rfl rfl yS41 rfl rfl ?_
              refine l_nil ?_
              apply n_begin
              · exact tk
              · assumption
              refine t_block <| t_seq <| t_seq <| t_draw mixed ?_
              apply dq 0 rfl
              · exact yq (q_move rfl)
              apply dq 1 rfl
              · exact yq (qld rfl yA3)
              apply dq 2 rfl
              · exact yq (qi rfl rfl (b_leq ·))
              apply dq 3 rfl
              · exact yq (q_move rfl)
              refine d_pt (t := 74) rfl (fun c1 => ?_) fun c1 => ?_
              · omega
              · apply dq 4 rfl
                · exact yq_on rfl rfl (q_move rfl)
                apply dq 5 rfl
                · exact yq_on rfl rfl (qi rfl rfl (b_gtr ·))
                apply dq 6 rfl
                · exact yq (q_pk rfl rfl)
                apply dq 7 rfl
                · exact yq (q_move rfl)
                refine d_pt (t := 78) rfl (fun c2 => ?_) fun c2 => ?_
                · omega
                · apply dq 8 rfl
                  · exact yq_on rfl rfl (qfa 0 rfl yU41 rfl rfl yS3)
                  apply dq 9 rfl
                  · exact yq_on rfl rfl (qld rfl yA3)
                  apply dq 10 rfl
                  · exact yq_on rfl rfl (qi rfl rfl (b_neq ·))
                  apply dq 11 rfl
                  · exact yq (q_pk rfl rfl)
                  apply dq 12 rfl
                  · exact yq (q_move rfl)
                  refine d_pt (t := 83) rfl (fun c3 => ?_) fun c3 => ?_
                  · exact absurd hkind c3
                  · apply dq 13 rfl
                    · exact yq_on rfl rfl (qlda rfl yA41 yS41)
                    apply dq 14 rfl
                    · exact yq_on rfl rfl (q_move rfl)
                    apply dq 15 rfl
                    · exact yq_on rfl rfl (q_indexAddrA rfl rfl yU42 yS41 (by omega))
                    apply dq 16 rfl
                    · apply yq_on rfl rfl
                      apply q_loadAgg rfl yA41 yS41
                      · exact tk
                      · exact arr8_in rfl hi8 (Nat.le_refl _)
                      · exact arr8_part0 rfl hi8
                    apply dq 17 rfl
                    · exact yq_on rfl rfl (q_bin rfl rfl (g_flat · yG41) fun w => b_neqFlat w yU41 yH41 (by kernel_rfl) (by kernel_rfl))
                    apply dq 18 rfl
                    · exact yq (q_pk rfl rfl)
                    refine d_end (by kernel_rfl) ?_
                    refine n_code <| t_if rfl (fun c4 => ?_) fun c4 => ?_
                    · simp at c4
                    · refine t_skip <| nz <| mv rfl rfl <| st rfl rfl rfl yS3 rfl ?_
                      refine lz <| l_q rfl (qld rfl yA3) ?_
                      refine l_q rfl (qadd rfl rfl) ?_
                      refine st rfl rfl rfl yS3 rfl ?_
                      refine lc <| t_seq <| sr <| l_q rfl (qld rfl yA3) ?_
                      refine l_q rfl (qld rfl yA3) ?_
                      refine l_q rfl (qi rfl rfl (b_eql ·)) <| lc <| t_if rfl (fun c5 => ?_) fun c5 => ?_
                      · refine xe rfl ?_
                        apply r_left (.inr ⟨_, rfl, rfl⟩) ((s1, S1, ad1, ((i1 : Nat) : Int))) (⟨rfl, c5, hP1, hS1⟩)
                        exact en
                      · refine t_skip <| n_code <| t_seq <| t_draw mixed ?_
                        apply dq 0 rfl
                        · exact yq (qld rfl yA28)
                        apply dq 1 rfl
                        · exact yq (q_move rfl)
                        apply dq 2 rfl
                        · exact yq (qsub rfl rfl)
                        apply dq 3 rfl
                        · apply yq
                          apply q_buildS rfl yP32 yZ32
                          · apply FillR.one
                            · repeat (first | exact PlAt.here | apply PlAt.there)
                            · rfl
                            · exact sa
                            apply FillR.one
                            · repeat (first | exact PlAt.here | apply PlAt.there)
                            · rfl
                            · exact sa
                            exact FillR.nil
                        refine d_eff1 [0, 3, 2, 1] [] 4 [(96, _), (99, _)] gO ⟨rfl, rfl, trivial⟩ (by kernel_rfl) (by kernel_rfl) fun Ex => ?_
                        refine lcf rfl rfl rfl (turn_ok pb pa po bm off l vf vo _ sd m G hGT hGO hm hsd hl S1 ad1 s1 hP1 hS1 (by omega) 2 (15 - ((i1 : Nat) : Int)) 0) ?_
                        rintro v L' ⟨s2, S2, ad2, rfl, rfl, hP2, hS2, _, hA2⟩
                        refine l_nm ?_
                        refine l_nil ?_
                        apply n_d
                        · exact trivial
                        apply dq 5 rfl
                        · exact yq (q_un rfl (u_not ·))
                        apply dq 6 rfl
                        · exact yq (q_move rfl)
                        have hu2 := hS2.used_le
                        refine d_pt (t := 102) rfl (fun d1 => ?_) fun d1 => ?_
                        · cases d1
                        · apply dq 7 rfl
                          · exact yq_on rfl rfl (q_move rfl)
                          apply dq 8 rfl
                          · exact yq_on rfl rfl (qi rfl rfl (b_lss ·))
                          apply dq 9 rfl
                          · exact yq_on rfl rfl (q_move rfl)
                          refine d_pt (t := 105) rfl (fun d2 => ?_) fun d2 => ?_
                          · have hi7 : i1 + 1 < 8 := by omega
                            apply dq 10 rfl
                            · exact yq_on rfl rfl (q_move rfl)
                            apply dq 11 rfl
                            · exact yq_on rfl rfl (qadd rfl rfl)
                            apply dq 12 rfl
                            · exact yq_on rfl rfl (q_indexAddrA rfl rfl yU42 yS41 (by omega))
                            apply dq 13 rfl
                            · exact yq_on rfl rfl (qfa 0 rfl yU41 rfl rfl yS3)
                            apply dq 14 rfl
                            · exact yq_on rfl rfl (q_load rfl yA3 tk (arr8_get (j := i1 + 1) (by omega) hi7 (m := 0) rfl))
                            apply dq 15 rfl
                            · exact yq_on rfl rfl (qi rfl rfl (b_eql ·))
                            apply dq 16 rfl
                            · exact yq_on rfl rfl (q_pk rfl rfl)
                            apply dq 17 rfl
                            · exact yq_on rfl rfl (q_move rfl)
                            refine d_pt (t := 113) rfl (fun d3 => ?_) fun d3 => ?_
                            · have hf2 := kind_full.1 d3
                              obtain ⟨u, hbyte⟩ : ∃ u, (S.cells (i1 + 1)).keyS[(0 : Int).toNat]? = some u := by
                                have hok := hP.okc (i1 + 1) hi7
                                cases hc : S.cells (i1 + 1) with
                                | full t' k' e' b' =>
                                  rw [hc] at hok
                                  have hsz : k'.size = kN l := hok.2.2.1
                                  have hkn := hN.k
                                  exact ⟨k'[0]'(by omega), getElem?_pos k' 0 (by omega)⟩
                                | _ => rw [hc] at hf2; cases hf2
                              have hul := u.toNat_lt
                              apply dq 18 rfl
                              · exact yq_on rfl rfl (qld rfl yA28)
                              apply dq 19 rfl
                              · exact yq_on rfl rfl (q_move rfl)
                              apply dq 20 rfl
                              · exact yq_on rfl rfl (qadd rfl rfl)
                              apply dq 21 rfl
                              · exact yq_on rfl rfl (q_indexAddrA rfl rfl yU42 yS41 (by omega))
                              apply dq 22 rfl
                              · exact yq_on rfl rfl (qfa 2 rfl yU41 rfl rfl yS9)
                              apply dq 23 rfl
                              · exact yq_on rfl rfl (q_load rfl yA9 tk (arr8_get (j := i1 + 1) (by omega) hi7 (m := 2) rfl))
                              apply dq 24 rfl
                              · exact yq_on rfl rfl (q_indexSv rfl rfl Tryz.underlying9 (by decide) hbyte)
                              apply dq 25 rfl
                              · exact yq_on rfl rfl (qcv rfl yU5 yU3)
                              apply dq 26 rfl
                              · apply yq_on rfl rfl
                                apply q_buildS rfl yP32 yZ32
                                · apply FillR.one
                                  · repeat (first | exact PlAt.here | apply PlAt.there)
                                  · rfl
                                  · exact sa
                                  apply FillR.one
                                  · repeat (first | exact PlAt.here | apply PlAt.there)
                                  · rfl
                                  · exact sa
                                  exact FillR.nil
                              refine d_eff1 [18, 26, 17, 25, 16, 9, 6, 24, 15, 8, 5, 23, 14, 7, 22, 13, 21, 12, 20, 11, 19, 10] [] 27 [(114, _), (122, _), (113, _)] gO ⟨rfl, rfl, rfl, trivial⟩ (by kernel_rfl) (by kernel_rfl) fun Ex => ?_
                              refine l_on rfl rfl <| lcf rfl rfl rfl (turn_ok pb pa po bm off l vf vo _ sd m G hGT hGO hm hsd hl S2 ad2 s2 hP2 hS2 (by omega) 2 ((u.toNat : Nat) : Int) 0) ?_
                              rintro v L' ⟨s3, S3, ad3, rfl, rfl, hP3, hS3, _, hA3⟩
                              refine l_nm ?_
                              refine l_nil ?_
                              apply n_d
                              · exact trivial
                              apply dq 28 rfl
                              · exact yq_on rfl rfl (q_un rfl (u_not ·))
                              apply dq 29 rfl
                              · exact yq_on rfl rfl (q_pk rfl rfl)
                              apply dq 30 rfl
                              · exact yq (q_pk rfl rfl)
                              apply dq 31 rfl
                              · exact yq (q_move rfl)
                              refine d_pt (t := 127) rfl (fun d4 => ?_) fun d4 => ?_
                              · cases d4
                              · apply dq 32 rfl
                                · exact yq_on rfl rfl (qld rfl yA28)
                                apply dq 33 rfl
                                · exact yq_on rfl rfl (q_move rfl)
                                apply dq 34 rfl
                                · exact yq_on rfl rfl (qld rfl yA3)
                                apply dq 35 rfl
                                · apply yq_on rfl rfl
                                  apply q_buildS rfl yP32 yZ32
                                  · apply FillR.one
                                    · repeat (first | exact PlAt.here | apply PlAt.there)
                                    · rfl
                                    · exact sa
                                    apply FillR.one
                                    · repeat (first | exact PlAt.here | apply PlAt.there)
                                    · rfl
                                    · exact sa
                                    apply FillR.one
                                    · repeat (first | exact PlAt.here | apply PlAt.there)
                                    · rfl
                                    · exact sa
                                    exact FillR.nil
                                refine d_eff1 [32, 35, 31, 33, 34, 30, 29, 28] [] 36 [(128, _), (131, _), (127, _)] gO ⟨rfl, rfl, rfl, trivial⟩ (by kernel_rfl) (by kernel_rfl) fun Ex => ?_
                                refine l_on rfl rfl <| lcf rfl rfl rfl (turn_ok pb pa po bm off l vf vo _ sd m G hGT hGO hm hsd hl S3 ad3 s3 hP3 hS3 (by omega) 1 ((i1 : Nat) : Int) (((k : Nat) : Int) + 1)) ?_
                                rintro v L' ⟨s4, S4, ad4, rfl, rfl, hP4, hS4, _, hA4⟩
                                refine l_nm ?_
                                refine l_nil ?_
                                apply n_d
                                · exact trivial
                                apply dq 37 rfl
                                · exact yq_on rfl rfl (q_un rfl (u_not ·))
                                apply dq 38 rfl
                                · exact yq (q_pk rfl rfl)
                                refine d_end (by kernel_rfl) ?_
                                refine n_code <| t_if rfl (fun e1 => ?_) fun e1 => ?_
                                · cases e1
                                · refine t_skip <| n_blk ?_
                                  apply r_next (by assumption) (by assumption) ((s4, S4, ad4, ((i1 : Nat) : Int))) (⟨hP4, hS4, by dsimp only; omega, hnext⟩)
                                  exact en
                            · apply dq 18 rfl
                              · exact yq_off rfl rfl rfl (by intro k; simp)
                              apply dq 19 rfl
                              · exact yq_off rfl rfl rfl (by intro k; simp)
                              apply dq 20 rfl
                              · exact yq_off rfl rfl rfl (by intro k; simp)
                              apply dq 21 rfl
                              · exact yq_off rfl rfl rfl (by intro k; simp)
                              apply dq 22 rfl
                              · exact yq_off rfl rfl rfl (by intro k; simp)
                              apply dq 23 rfl
                              · exact yq_off rfl rfl rfl (by intro k; simp)
                              apply dq 24 rfl
                              · exact yq_off rfl rfl rfl (by intro k; simp)
                              apply dq 25 rfl
                              · exact yq_off rfl rfl rfl (by intro k; simp)
                              apply dq 26 rfl
                              · exact yq_off rfl rfl rfl (by intro k; simp)
                              refine d_eff1 [18, 26, 17, 25, 16, 9, 6, 24, 15, 8, 5, 23, 14, 7, 22, 13, 21, 12, 20, 11, 19, 10] [] 27 [(114, _), (122, _), (113, _)] gO ⟨rfl, rfl, rfl, trivial⟩ (by kernel_rfl) (by kernel_rfl) fun Ex => ?_
                              refine l_off rfl rfl rfl rfl <| l_nil ?_
                              apply n_d
                              · exact trivial
                              apply dq 28 rfl
                              · exact yq_off rfl rfl rfl (by intro k; simp)
                              apply dq 29 rfl
                              · exact yq_on rfl rfl (q_pk rfl rfl)
                              apply dq 30 rfl
                              · exact yq (q_pk rfl rfl)
                              apply dq 31 rfl
                              · exact yq (q_move rfl)
                              apply dq 32 rfl
                              · exact yq_on rfl rfl (qld rfl yA28)
                              apply dq 33 rfl
                              · exact yq_on rfl rfl (q_move rfl)
                              apply dq 34 rfl
                              · exact yq_on rfl rfl (qld rfl yA3)
                              apply dq 35 rfl
                              · apply yq_on rfl rfl
                                apply q_buildS rfl yP32 yZ32
                                · apply FillR.one
                                  · repeat (first | exact PlAt.here | apply PlAt.there)
                                  · rfl
                                  · exact sa
                                  apply FillR.one
                                  · repeat (first | exact PlAt.here | apply PlAt.there)
                                  · rfl
                                  · exact sa
                                  apply FillR.one
                                  · repeat (first | exact PlAt.here | apply PlAt.there)
                                  · rfl
                                  · exact sa
                                  exact FillR.nil
                              refine d_eff1 [32, 35, 31, 33, 34, 30, 29, 28] [] 36 [(128, _), (131, _), (127, _)] gO ⟨rfl, rfl, rfl, trivial⟩ (by kernel_rfl) (by kernel_rfl) fun Ex => ?_
                              refine l_on rfl rfl <| lcf rfl rfl rfl (turn_ok pb pa po bm off l vf vo _ sd m G hGT hGO hm hsd hl S2 ad2 s2 hP2 hS2 (by omega) 1 ((i1 : Nat) : Int) (((k : Nat) : Int) + 1)) ?_
                              rintro v L' ⟨s4, S4, ad4, rfl, rfl, hP4, hS4, _, hA4⟩
                              refine l_nm ?_
                              refine l_nil ?_
                              apply n_d
                              · exact trivial
                              apply dq 37 rfl
                              · exact yq_on rfl rfl (q_un rfl (u_not ·))
                              apply dq 38 rfl
                              · exact yq (q_pk rfl rfl)
                              refine d_end (by kernel_rfl) ?_
                              refine n_code <| t_if rfl (fun e1 => ?_) fun e1 => ?_
                              · cases e1
                              · refine t_skip <| n_blk ?_
                                apply r_next (by assumption) (by assumption) ((s4, S4, ad4, ((i1 : Nat) : Int))) (⟨hP4, hS4, by dsimp only; omega, hnext⟩)
                                exact en
                          · apply dq 10 rfl
                            · exact yq_off rfl rfl rfl (by intro k; simp)
                            apply dq 11 rfl
                            · exact yq_off rfl rfl rfl (by intro k; simp)
                            apply dq 12 rfl
                            · exact yq_off rfl rfl rfl (by intro k; simp)
                            apply dq 13 rfl
                            · exact yq_off rfl rfl rfl (by intro k; simp)
                            apply dq 14 rfl
                            · exact yq_off rfl rfl rfl (by intro k; simp)
                            apply dq 15 rfl
                            · exact yq_off rfl rfl rfl (by intro k; simp)
                            apply dq 16 rfl
                            · exact yq_on rfl rfl (q_pk rfl rfl)
                            apply dq 17 rfl
                            · exact yq_on rfl rfl (q_move rfl)
                            apply dq 18 rfl
                            · exact yq_off rfl rfl rfl (by intro k; simp)
                            apply dq 19 rfl
                            · exact yq_off rfl rfl rfl (by intro k; simp)
                            apply dq 20 rfl
                            · exact yq_off rfl rfl rfl (by intro k; simp)
                            apply dq 21 rfl
                            · exact yq_off rfl rfl rfl (by intro k; simp)
                            apply dq 22 rfl
                            · exact yq_off rfl rfl rfl (by intro k; simp)
                            apply dq 23 rfl
                            · exact yq_off rfl rfl rfl (by intro k; simp)
                            apply dq 24 rfl
                            · exact yq_off rfl rfl rfl (by intro k; simp)
                            apply dq 25 rfl
                            · exact yq_off rfl rfl rfl (by intro k; simp)
                            apply dq 26 rfl
                            · exact yq_off rfl rfl rfl (by intro k; simp)
                            refine d_eff1 [18, 26, 17, 25, 16, 9, 6, 24, 15, 8, 5, 23, 14, 7, 22, 13, 21, 12, 20, 11, 19, 10] [] 27 [(114, _), (122, _), (113, _)] gO ⟨rfl, rfl, rfl, trivial⟩ (by kernel_rfl) (by kernel_rfl) fun Ex => ?_
                            refine l_off rfl rfl rfl rfl <| l_nil ?_
                            apply n_d
                            · exact trivial
                            apply dq 28 rfl
                            · exact yq_off rfl rfl rfl (by intro k; simp)
                            apply dq 29 rfl
                            · exact yq_on rfl rfl (q_pk rfl rfl)
                            apply dq 30 rfl
                            · exact yq (q_pk rfl rfl)
                            apply dq 31 rfl
                            · exact yq (q_move rfl)
                            apply dq 32 rfl
                            · exact yq_on rfl rfl (qld rfl yA28)
                            apply dq 33 rfl
                            · exact yq_on rfl rfl (q_move rfl)
                            apply dq 34 rfl
                            · exact yq_on rfl rfl (qld rfl yA3)
                            apply dq 35 rfl
                            · apply yq_on rfl rfl
                              apply q_buildS rfl yP32 yZ32
                              · apply FillR.one
                                · repeat (first | exact PlAt.here | apply PlAt.there)
                                · rfl
                                · exact sa
                                apply FillR.one
                                · repeat (first | exact PlAt.here | apply PlAt.there)
                                · rfl
                                · exact sa
                                apply FillR.one
                                · repeat (first | exact PlAt.here | apply PlAt.there)
                                · rfl
                                · exact sa
                                exact FillR.nil
                            refine d_eff1 [32, 35, 31, 33, 34, 30, 29, 28] [] 36 [(128, _), (131, _), (127, _)] gO ⟨rfl, rfl, rfl, trivial⟩ (by kernel_rfl) (by kernel_rfl) fun Ex => ?_
                            refine l_on rfl rfl <| lcf rfl rfl rfl (turn_ok pb pa po bm off l vf vo _ sd m G hGT hGO hm hsd hl S2 ad2 s2 hP2 hS2 (by omega) 1 ((i1 : Nat) : Int) (((k : Nat) : Int) + 1)) ?_
                            rintro v L' ⟨s4, S4, ad4, rfl, rfl, hP4, hS4, _, hA4⟩
                            refine l_nm ?_
                            refine l_nil ?_
                            apply n_d
                            · exact trivial
                            apply dq 37 rfl
                            · exact yq_on rfl rfl (q_un rfl (u_not ·))
                            apply dq 38 rfl
                            · exact yq (q_pk rfl rfl)
                            refine d_end (by kernel_rfl) ?_
                            refine n_code <| t_if rfl (fun e1 => ?_) fun e1 => ?_
                            · cases e1
                            · refine t_skip <| n_blk ?_
                              apply r_next (by assumption) (by assumption) ((s4, S4, ad4, ((i1 : Nat) : Int))) (⟨hP4, hS4, by dsimp only; omega, hnext⟩)
                              exact en
            · rintro b1' ⟨s1, S1, ad1, last⟩ ⟨hP1, hS1, hA1, _⟩
              dsimp only at hP1 hS1 hA1 ⊢
              rw [cellsV_len]
              refine n_nm ?_
              refine n_blk <| n_code <| t_seq <| sr <| l_q rfl (qld rfl yA3) ?_
              refine mv rfl rfl <| l_q rfl (qi rfl rfl (b_neq ·)) <| mv rfl rfl <| l_pt (t := 138) rfl (fun d1 => ?_) fun d1 => ?_
              · exact absurd rfl d1
              · refine l_off rfl rfl rfl rfl <| l_off rfl rfl rfl rfl <| l_off rfl rfl rfl rfl <| l_q rfl (q_pk rfl rfl) <| lc <| t_cond_f rfl <| t_skip <| nz <| o_alloc1 rfl yZ3 rfl fun b19 => o_alloc1 rfl yZ3 rfl fun b20 => st rfl rfl rfl yS3 rfl ?_
                refine st rfl rfl rfl yS3 rfl ?_
                refine lc <| t_seq <| sr <| l_q rfl (qld rfl yA46) ?_
                refine lc <| t_block ?_
                have hu1 := hS1.used_le
                obtain ⟨N, hNd⟩ : ∃ N, N = cnt isFull S1.cells 8 := ⟨_, rfl⟩
                have hN8 : N ≤ 8 := by rw [hNd]; exact cnt_le _ _ _
                have hlen : (cellsV S1.cells 8).length = N := by rw [cellsV_len, hNd]
                apply t_rangeH (p := (fun (k : Nat) (x : Nat) => x = k * N)) (J := (fun k x => [pt b19 (.cells #[.int .i64 (k : Nat)] 3 (0, 0)), pt b20 (.cells #[.int .i64 (x : Nat)] 3 (0, 0)), pt b4 (.cells #[.bool false] 4 (0, 0)), pt b5 (.cells #[.pointer (some ⟨pb, 0, none⟩)] 28 (0, 0)), pt b16 (.cells #[.func (.func 32) #[] #[.pointer (some ⟨bc, 0, none⟩)]] 46 (0, 0)), pt pb (.cells (bsc pa po l off vf vo sd (.slice ta ts.length tcap) S1.cells ad1).toArray 44 (0, 0)), arenaH pa s1])) (q := (fun _ (y : Code × Unit) => False)) (Jx := (fun _ _ => [])) (x0 := 0) (hc := SCells_itS pa off bc s1 l S1 hP1) (hr := rfl) (hg := rfl)
                · exact pk
                · exact (Nat.zero_mul N).symm
                · (try dsimp only); (try simp only [Int.natCast_zero, Nat.sub_zero]); exact pk
                · (try dsimp only); (try simp only [Int.natCast_zero, Nat.sub_zero]); exact pk
                · rfl
                · exact cellsV_two
                · intro l2 rc2 Fr2 w2 k x j hrd2 hpn2 hx2 hj2
                  (try dsimp only at hj2)
                  have hkN : k < N := by rw [← hlen]; exact (List.getElem?_eq_some_iff.1 hx2).1
                  obtain ⟨i2, hi8, hfi2, hck2, rfl⟩ := cellsV_at hx2
                  have hmul : k * N ≤ 64 := Nat.le_trans (Nat.mul_le_mul (by omega : k ≤ 8) hN8) (by decide)
                  refine t_nm ?_
                  refine sr <| asg rfl rfl <| lr <| o_allocA rfl yZ41 fun b22 => sta rfl rfl rfl yS41 rfl rfl ?_
                  refine l_nil ?_
                  apply n_begin
                  · exact tk
                  · assumption
                  refine t_block <| t_seq <| t_seq <| t_draw mixed ?_
                  apply dq 0 rfl
                  · exact yq (q_move rfl)
                  apply dq 1 rfl
                  · exact yq (qi rfl rfl (b_lss ·))
                  apply dq 2 rfl
                  · exact yq (q_move rfl)
                  refine d_pt (t := 148) rfl (fun c1 => ?_) fun c1 => ?_
                  · omega
                  · apply dq 3 rfl
                    · exact yq_on rfl rfl (q_move rfl)
                    apply dq 4 rfl
                    · exact yq_on rfl rfl (qi rfl rfl (b_gtr ·))
                    apply dq 5 rfl
                    · exact yq (q_pk rfl rfl)
                    apply dq 6 rfl
                    · exact yq (q_move rfl)
                    refine d_pt (t := 152) rfl (fun c2 => ?_) fun c2 => ?_
                    · omega
                    · apply dq 7 rfl
                      · exact yq_on rfl rfl (qlda rfl yA41 yS41)
                      apply dq 8 rfl
                      · exact yq_on rfl rfl (qld rfl yA28)
                      apply dq 9 rfl
                      · exact yq_on rfl rfl (q_move rfl)
                      apply dq 10 rfl
                      · exact yq_on rfl rfl (q_nilCheck rfl)
                      apply dq 11 rfl
                      · exact yq_on rfl rfl (qfa 26 rfl yU44 rfl rfl yS42)
                      apply dq 12 rfl
                      · exact yq_on rfl rfl (q_indexAddrA rfl rfl yU42 yS41 (by omega))
                      apply dq 13 rfl
                      · apply yq_on rfl rfl
                        apply q_loadAgg rfl yA41 yS41
                        · exact tk
                        · exact bsc_in rfl hi8 (Nat.le_refl _)
                        · exact bsc_part rfl hi8
                      apply dq 14 rfl
                      · exact yq_on rfl rfl (q_bin rfl rfl (g_flat · yG41) fun w => b_neqFlat w yU41 yH41 (by kernel_rfl) (by kernel_rfl))
                      apply dq 15 rfl
                      · exact yq (q_pk rfl rfl)
                      refine d_end (by kernel_rfl) ?_
                      refine n_code <| t_if rfl (fun c4 => ?_) fun c4 => ?_
                      · simp at c4
                      · refine t_skip <| nz <| l_q rfl (qld rfl yA3) ?_
                        refine l_q rfl (qadd rfl rfl) ?_
                        refine st rfl rfl rfl yS3 rfl ?_
                        refine lz <| l_q rfl (qld rfl yA46) ?_
                        refine lc <| t_block ?_
                        apply t_rangeNH (p := (fun (q : Nat) (y : Nat) => y = k * N + q)) (J := (fun _ y => [pt b20 (.cells #[.int .i64 (y : Nat)] 3 (0, 0)), arenaH pa s1])) (q := (fun _ (y : Code × Unit) => False)) (Jx := (fun _ _ => [])) (x0 := j) (hc := SCells_it pa off bc s1 l S1 hP1) (hr := rfl) (hg := rfl)
                        · exact tk
                        · exact pk
                        · exact hj2
                        · (try dsimp only); (try simp only [Int.natCast_zero, Nat.sub_zero]); exact pk
                        · (try dsimp only); (try simp only [Int.natCast_zero, Nat.sub_zero]); exact pk
                        · rfl
                        · exact cellsV_two
                        · intro l3 rc3 Fr3 w3 q x3 j3 hrd3 hpn3 hx3 hj3
                          have hqN : q < N := by rw [← hlen]; exact (List.getElem?_eq_some_iff.1 hx3).1
                          obtain ⟨i3, hi83, hfi3, hck3, rfl⟩ := cellsV_at hx3
                          (try dsimp only at hj3)
                          refine t_nm ?_
                          refine t_skip ?_
                          apply n_begin
                          · exact tk
                          · assumption
                          refine t_block <| t_region <| l_q rfl (qld rfl yA3) ?_
                          refine l_q rfl (qadd rfl rfl) ?_
                          refine st rfl rfl rfl yS3 rfl ?_
                          refine l_nil <| n_blk ?_
                          apply r_next (by assumption) (by assumption) (j3 + 1) (by (try dsimp only); omega)
                          exact en
                        · intro j3 hj3
                          rw [hlen] at hj3
                          refine n_nm ?_
                          refine n_blk <| n_blk ?_
                          apply r_next (by assumption) (by assumption) (j3) (by (try dsimp only at hj3 ⊢); rw [hj3, Nat.succ_mul])
                          exact en
                        · rintro q ⟨jc, y⟩ hq hq2
                          exact hq2.elim
                · intro b2' j2 hj2
                  rw [hlen] at hj2 ⊢
                  (try dsimp only at hj2 ⊢)
                  subst hj2
                  refine n_nm ?_
                  refine n_blk <| nz <| l_q rfl (qld rfl yA28) ?_
                  refine l_q rfl (q_nilCheck rfl) <| l_q rfl (qfa 11 rfl yU44 rfl rfl yS39) <| l_q rfl (qlda rfl yA39 yS39) ?_
                  refine lc1 rfl rfl rfl (SStat_ok pa off s1 l S1 hP1) ?_
                  rw [hS1.kd, hS1.pn, hS1.nx, hS1.used, ← hNd]
                  have hNN : ((N : Nat) : Int) * ((N : Nat) : Int) = ((N * N : Nat) : Int) := by push_cast; rfl
                  have hN64 : N * N ≤ 64 := Nat.mul_le_mul hN8 hN8
                  refine mv rfl rfl <| l_q rfl (q_extractL rfl ga) ?_
                  refine l_q rfl (q_extractL rfl ga) ?_
                  refine o_allocA rfl yZ49 fun b23 => sta rfl rfl rfl yS49 rfl rfl ?_
                  refine asg rfl rfl <| lz <| mv rfl rfl <| lc1 rfl rfl rfl (num11_ok _) ?_
                  refine l_q rfl (qi rfl rfl (b_eql ·)) <| mv rfl rfl <| l_pt (t := 180) rfl (fun z1 => ?_) fun z1 => ?_
                  · refine l_on rfl rfl <| l_q rfl (qld rfl yA3) ?_
                    refine l_on rfl rfl <| l_q rfl (qfa 0 rfl yU49 rfl rfl yS3) <| l_on rfl rfl <| l_q rfl (qld rfl yA3) ?_
                    refine l_on rfl rfl <| l_q rfl (qi rfl rfl (b_eql ·)) <| l_q rfl (q_pk rfl rfl) <| mv rfl rfl <| l_pt (t := 186) rfl (fun z2 => ?_) fun z2 => ?_
                    · refine l_on rfl rfl <| l_q rfl (qld rfl yA3) ?_
                      refine l_on rfl rfl <| l_q rfl (qld rfl yA3) ?_
                      refine l_on rfl rfl <| l_q rfl (qld rfl yA3) ?_
                      refine l_on rfl rfl <| l_q rfl (qmul rfl rfl) ?_
                      refine l_on rfl rfl <| l_q rfl (qi rfl rfl (b_eql ·)) <| l_q rfl (q_pk rfl rfl) <| mv rfl rfl <| l_pt (t := 193) rfl (fun z3 => ?_) fun z3 => ?_
                      · refine l_on rfl rfl <| l_q rfl (qld rfl yA28) ?_
                        refine l_on rfl rfl <| lc1 rfl rfl rfl (holds_ok pb pa po off l vf vo _ sd m S1 ad1 s1 hP1 hS1) ?_
                        refine l_q rfl (q_pk rfl rfl) <| st rfl rfl rfl yS4 rfl ?_
                        refine lc <| rt ?_
                        apply f_retm (.inl rfl) [b2', b1'] ([G])
                        · repeat (first | with_reducible exact TakeM.nil | apply TakeM.cons | with_reducible exact Take.here | apply Take.there)
                        · apply res1 rfl
                          · apply Rv.cellL rfl
                            · exact tk
                            · exact ga
                            · exact yA4
                        · exact ⟨rfl, rfl⟩
                        · exact en
                      · exact absurd hNN.symm z3
                    · exact absurd rfl z2
                  · exact absurd rfl z1
                · rintro b2' k ⟨jc, y⟩ hk hq
                  exact hq.elim
            · rintro b1' k ⟨jc, s1, S1, ad1, last⟩ hk ⟨rfl, hst, hP1, hS1⟩
              dsimp only at hst hP1 hS1 ⊢
              refine t_nm ?_
              refine xt rfl <| n_code <| t_seq <| sr <| l_q rfl (qld rfl yA3) ?_
              refine mv rfl rfl <| l_q rfl (qi rfl rfl (b_neq ·)) <| mv rfl rfl <| l_pt (t := 138) rfl (fun d1 => ?_) fun d1 => ?_
              · refine l_on rfl rfl <| l_q rfl (qld rfl yA3) ?_
                refine l_on rfl rfl <| l_q rfl (qld rfl yA3) ?_
                refine l_on rfl rfl <| l_q rfl (qi rfl rfl (b_neq ·)) <| l_q rfl (q_pk rfl rfl) <| lc <| t_if rfl (fun d2 => ?_) fun d2 => ?_
                · exact absurd hst d2
                · refine t_skip <| nz <| o_alloc1 rfl yZ3 rfl fun b19 => o_alloc1 rfl yZ3 rfl fun b20 => st rfl rfl rfl yS3 rfl ?_
                  refine st rfl rfl rfl yS3 rfl ?_
                  refine lc <| t_seq <| sr <| l_q rfl (qld rfl yA46) ?_
                  refine lc <| t_block ?_
                  have hu1 := hS1.used_le
                  obtain ⟨N, hNd⟩ : ∃ N, N = cnt isFull S1.cells 8 := ⟨_, rfl⟩
                  have hN8 : N ≤ 8 := by rw [hNd]; exact cnt_le _ _ _
                  have hlen : (cellsV S1.cells 8).length = N := by rw [cellsV_len, hNd]
                  apply t_rangeH (p := (fun (k : Nat) (x : Nat) => x = k * N)) (J := (fun k x => [pt b19 (.cells #[.int .i64 (k : Nat)] 3 (0, 0)), pt b20 (.cells #[.int .i64 (x : Nat)] 3 (0, 0)), pt b4 (.cells #[.bool false] 4 (0, 0)), pt b5 (.cells #[.pointer (some ⟨pb, 0, none⟩)] 28 (0, 0)), pt b16 (.cells #[.func (.func 32) #[] #[.pointer (some ⟨bc, 0, none⟩)]] 46 (0, 0)), pt pb (.cells (bsc pa po l off vf vo sd (.slice ta ts.length tcap) S1.cells ad1).toArray 44 (0, 0)), arenaH pa s1])) (q := (fun _ (y : Code × Unit) => False)) (Jx := (fun _ _ => [])) (x0 := 0) (hc := SCells_itS pa off bc s1 l S1 hP1) (hr := rfl) (hg := rfl)
                  · exact pk
                  · exact (Nat.zero_mul N).symm
                  · (try dsimp only); (try simp only [Int.natCast_zero, Nat.sub_zero]); exact pk
                  · (try dsimp only); (try simp only [Int.natCast_zero, Nat.sub_zero]); exact pk
                  · rfl
                  · exact cellsV_two
                  · intro l2 rc2 Fr2 w2 k x j hrd2 hpn2 hx2 hj2
                    (try dsimp only at hj2)
                    have hkN : k < N := by rw [← hlen]; exact (List.getElem?_eq_some_iff.1 hx2).1
                    obtain ⟨i2, hi8, hfi2, hck2, rfl⟩ := cellsV_at hx2
                    have hmul : k * N ≤ 64 := Nat.le_trans (Nat.mul_le_mul (by omega : k ≤ 8) hN8) (by decide)
                    refine t_nm ?_
                    refine sr <| asg rfl rfl <| lr <| o_allocA rfl yZ41 fun b22 => sta rfl rfl rfl yS41 rfl rfl ?_
                    refine l_nil ?_
                    apply n_begin
                    · exact tk
                    · assumption
                    refine t_block <| t_seq <| t_seq <| t_draw mixed ?_
                    apply dq 0 rfl
                    · exact yq (q_move rfl)
                    apply dq 1 rfl
                    · exact yq (qi rfl rfl (b_lss ·))
                    apply dq 2 rfl
                    · exact yq (q_move rfl)
                    refine d_pt (t := 148) rfl (fun c1 => ?_) fun c1 => ?_
                    · omega
                    · apply dq 3 rfl
                      · exact yq_on rfl rfl (q_move rfl)
                      apply dq 4 rfl
                      · exact yq_on rfl rfl (qi rfl rfl (b_gtr ·))
                      apply dq 5 rfl
                      · exact yq (q_pk rfl rfl)
                      apply dq 6 rfl
                      · exact yq (q_move rfl)
                      refine d_pt (t := 152) rfl (fun c2 => ?_) fun c2 => ?_
                      · omega
                      · apply dq 7 rfl
                        · exact yq_on rfl rfl (qlda rfl yA41 yS41)
                        apply dq 8 rfl
                        · exact yq_on rfl rfl (qld rfl yA28)
                        apply dq 9 rfl
                        · exact yq_on rfl rfl (q_move rfl)
                        apply dq 10 rfl
                        · exact yq_on rfl rfl (q_nilCheck rfl)
                        apply dq 11 rfl
                        · exact yq_on rfl rfl (qfa 26 rfl yU44 rfl rfl yS42)
                        apply dq 12 rfl
                        · exact yq_on rfl rfl (q_indexAddrA rfl rfl yU42 yS41 (by omega))
                        apply dq 13 rfl
                        · apply yq_on rfl rfl
                          apply q_loadAgg rfl yA41 yS41
                          · exact tk
                          · exact bsc_in rfl hi8 (Nat.le_refl _)
                          · exact bsc_part rfl hi8
                        apply dq 14 rfl
                        · exact yq_on rfl rfl (q_bin rfl rfl (g_flat · yG41) fun w => b_neqFlat w yU41 yH41 (by kernel_rfl) (by kernel_rfl))
                        apply dq 15 rfl
                        · exact yq (q_pk rfl rfl)
                        refine d_end (by kernel_rfl) ?_
                        refine n_code <| t_if rfl (fun c4 => ?_) fun c4 => ?_
                        · simp at c4
                        · refine t_skip <| nz <| l_q rfl (qld rfl yA3) ?_
                          refine l_q rfl (qadd rfl rfl) ?_
                          refine st rfl rfl rfl yS3 rfl ?_
                          refine lz <| l_q rfl (qld rfl yA46) ?_
                          refine lc <| t_block ?_
                          apply t_rangeNH (p := (fun (q : Nat) (y : Nat) => y = k * N + q)) (J := (fun _ y => [pt b20 (.cells #[.int .i64 (y : Nat)] 3 (0, 0)), arenaH pa s1])) (q := (fun _ (y : Code × Unit) => False)) (Jx := (fun _ _ => [])) (x0 := j) (hc := SCells_it pa off bc s1 l S1 hP1) (hr := rfl) (hg := rfl)
                          · exact tk
                          · exact pk
                          · exact hj2
                          · (try dsimp only); (try simp only [Int.natCast_zero, Nat.sub_zero]); exact pk
                          · (try dsimp only); (try simp only [Int.natCast_zero, Nat.sub_zero]); exact pk
                          · rfl
                          · exact cellsV_two
                          · intro l3 rc3 Fr3 w3 q x3 j3 hrd3 hpn3 hx3 hj3
                            have hqN : q < N := by rw [← hlen]; exact (List.getElem?_eq_some_iff.1 hx3).1
                            obtain ⟨i3, hi83, hfi3, hck3, rfl⟩ := cellsV_at hx3
                            (try dsimp only at hj3)
                            refine t_nm ?_
                            refine t_skip ?_
                            apply n_begin
                            · exact tk
                            · assumption
                            refine t_block <| t_region <| l_q rfl (qld rfl yA3) ?_
                            refine l_q rfl (qadd rfl rfl) ?_
                            refine st rfl rfl rfl yS3 rfl ?_
                            refine l_nil <| n_blk ?_
                            apply r_next (by assumption) (by assumption) (j3 + 1) (by (try dsimp only); omega)
                            exact en
                          · intro j3 hj3
                            rw [hlen] at hj3
                            refine n_nm ?_
                            refine n_blk <| n_blk ?_
                            apply r_next (by assumption) (by assumption) (j3) (by (try dsimp only at hj3 ⊢); rw [hj3, Nat.succ_mul])
                            exact en
                          · rintro q ⟨jc, y⟩ hq hq2
                            exact hq2.elim
                  · intro b2' j2 hj2
                    rw [hlen] at hj2 ⊢
                    (try dsimp only at hj2 ⊢)
                    subst hj2
                    refine n_nm ?_
                    refine n_blk <| nz <| l_q rfl (qld rfl yA28) ?_
                    refine l_q rfl (q_nilCheck rfl) <| l_q rfl (qfa 11 rfl yU44 rfl rfl yS39) <| l_q rfl (qlda rfl yA39 yS39) ?_
                    refine lc1 rfl rfl rfl (SStat_ok pa off s1 l S1 hP1) ?_
                    rw [hS1.kd, hS1.pn, hS1.nx, hS1.used, ← hNd]
                    have hNN : ((N : Nat) : Int) * ((N : Nat) : Int) = ((N * N : Nat) : Int) := by push_cast; rfl
                    have hN64 : N * N ≤ 64 := Nat.mul_le_mul hN8 hN8
                    refine mv rfl rfl <| l_q rfl (q_extractL rfl ga) ?_
                    refine l_q rfl (q_extractL rfl ga) ?_
                    refine o_allocA rfl yZ49 fun b23 => sta rfl rfl rfl yS49 rfl rfl ?_
                    refine asg rfl rfl <| lz <| mv rfl rfl <| lc1 rfl rfl rfl (num11_ok _) ?_
                    refine l_q rfl (qi rfl rfl (b_eql ·)) <| mv rfl rfl <| l_pt (t := 180) rfl (fun z1 => ?_) fun z1 => ?_
                    · refine l_on rfl rfl <| l_q rfl (qld rfl yA3) ?_
                      refine l_on rfl rfl <| l_q rfl (qfa 0 rfl yU49 rfl rfl yS3) <| l_on rfl rfl <| l_q rfl (qld rfl yA3) ?_
                      refine l_on rfl rfl <| l_q rfl (qi rfl rfl (b_eql ·)) <| l_q rfl (q_pk rfl rfl) <| mv rfl rfl <| l_pt (t := 186) rfl (fun z2 => ?_) fun z2 => ?_
                      · refine l_on rfl rfl <| l_q rfl (qld rfl yA3) ?_
                        refine l_on rfl rfl <| l_q rfl (qld rfl yA3) ?_
                        refine l_on rfl rfl <| l_q rfl (qld rfl yA3) ?_
                        refine l_on rfl rfl <| l_q rfl (qmul rfl rfl) ?_
                        refine l_on rfl rfl <| l_q rfl (qi rfl rfl (b_eql ·)) <| l_q rfl (q_pk rfl rfl) <| mv rfl rfl <| l_pt (t := 193) rfl (fun z3 => ?_) fun z3 => ?_
                        · refine l_on rfl rfl <| l_q rfl (qld rfl yA28) ?_
                          refine l_on rfl rfl <| lc1 rfl rfl rfl (holds_ok pb pa po off l vf vo _ sd m S1 ad1 s1 hP1 hS1) ?_
                          refine l_q rfl (q_pk rfl rfl) <| st rfl rfl rfl yS4 rfl ?_
                          refine lc <| rt ?_
                          apply f_retm (.inl rfl) [b2', b1'] ([G])
                          · repeat (first | with_reducible exact TakeM.nil | apply TakeM.cons | with_reducible exact Take.here | apply Take.there)
                          · apply res1 rfl
                            · apply Rv.cellL rfl
                              · exact tk
                              · exact ga
                              · exact yA4
                          · exact ⟨rfl, rfl⟩
                          · exact en
                        · exact absurd hNN.symm z3
                      · exact absurd rfl z2
                    · exact absurd rfl z1
                  · rintro b2' k ⟨jc, y⟩ hk hq
                    exact hq.elim
              · refine l_off rfl rfl rfl rfl <| l_off rfl rfl rfl rfl <| l_off rfl rfl rfl rfl <| l_q rfl (q_pk rfl rfl) <| lc <| t_cond_f rfl <| t_skip <| nz <| o_alloc1 rfl yZ3 rfl fun b19 => o_alloc1 rfl yZ3 rfl fun b20 => st rfl rfl rfl yS3 rfl ?_
                refine st rfl rfl rfl yS3 rfl ?_
                refine lc <| t_seq <| sr <| l_q rfl (qld rfl yA46) ?_
                refine lc <| t_block ?_
                have hu1 := hS1.used_le
                obtain ⟨N, hNd⟩ : ∃ N, N = cnt isFull S1.cells 8 := ⟨_, rfl⟩
                have hN8 : N ≤ 8 := by rw [hNd]; exact cnt_le _ _ _
                have hlen : (cellsV S1.cells 8).length = N := by rw [cellsV_len, hNd]
                apply t_rangeH (p := (fun (k : Nat) (x : Nat) => x = k * N)) (J := (fun k x => [pt b19 (.cells #[.int .i64 (k : Nat)] 3 (0, 0)), pt b20 (.cells #[.int .i64 (x : Nat)] 3 (0, 0)), pt b4 (.cells #[.bool false] 4 (0, 0)), pt b5 (.cells #[.pointer (some ⟨pb, 0, none⟩)] 28 (0, 0)), pt b16 (.cells #[.func (.func 32) #[] #[.pointer (some ⟨bc, 0, none⟩)]] 46 (0, 0)), pt pb (.cells (bsc pa po l off vf vo sd (.slice ta ts.length tcap) S1.cells ad1).toArray 44 (0, 0)), arenaH pa s1])) (q := (fun _ (y : Code × Unit) => False)) (Jx := (fun _ _ => [])) (x0 := 0) (hc := SCells_itS pa off bc s1 l S1 hP1) (hr := rfl) (hg := rfl)
                · exact pk
                · exact (Nat.zero_mul N).symm
                · (try dsimp only); (try simp only [Int.natCast_zero, Nat.sub_zero]); exact pk
                · (try dsimp only); (try simp only [Int.natCast_zero, Nat.sub_zero]); exact pk
                · rfl
                · exact cellsV_two
                · intro l2 rc2 Fr2 w2 k x j hrd2 hpn2 hx2 hj2
                  (try dsimp only at hj2)
                  have hkN : k < N := by rw [← hlen]; exact (List.getElem?_eq_some_iff.1 hx2).1
                  obtain ⟨i2, hi8, hfi2, hck2, rfl⟩ := cellsV_at hx2
                  have hmul : k * N ≤ 64 := Nat.le_trans (Nat.mul_le_mul (by omega : k ≤ 8) hN8) (by decide)
                  refine t_nm ?_
                  refine sr <| asg rfl rfl <| lr <| o_allocA rfl yZ41 fun b22 => sta rfl rfl rfl yS41 rfl rfl ?_
                  refine l_nil ?_
                  apply n_begin
                  · exact tk
                  · assumption
                  refine t_block <| t_seq <| t_seq <| t_draw mixed ?_
                  apply dq 0 rfl
                  · exact yq (q_move rfl)
                  apply dq 1 rfl
                  · exact yq (qi rfl rfl (b_lss ·))
                  apply dq 2 rfl
                  · exact yq (q_move rfl)
                  refine d_pt (t := 148) rfl (fun c1 => ?_) fun c1 => ?_
                  · omega
                  · apply dq 3 rfl
                    · exact yq_on rfl rfl (q_move rfl)
                    apply dq 4 rfl
                    · exact yq_on rfl rfl (qi rfl rfl (b_gtr ·))
                    apply dq 5 rfl
                    · exact yq (q_pk rfl rfl)
                    apply dq 6 rfl
                    · exact yq (q_move rfl)
                    refine d_pt (t := 152) rfl (fun c2 => ?_) fun c2 => ?_
                    · omega
                    · apply dq 7 rfl
                      · exact yq_on rfl rfl (qlda rfl yA41 yS41)
                      apply dq 8 rfl
                      · exact yq_on rfl rfl (qld rfl yA28)
                      apply dq 9 rfl
                      · exact yq_on rfl rfl (q_move rfl)
                      apply dq 10 rfl
                      · exact yq_on rfl rfl (q_nilCheck rfl)
                      apply dq 11 rfl
                      · exact yq_on rfl rfl (qfa 26 rfl yU44 rfl rfl yS42)
                      apply dq 12 rfl
                      · exact yq_on rfl rfl (q_indexAddrA rfl rfl yU42 yS41 (by omega))
                      apply dq 13 rfl
                      · apply yq_on rfl rfl
                        apply q_loadAgg rfl yA41 yS41
                        · exact tk
                        · exact bsc_in rfl hi8 (Nat.le_refl _)
                        · exact bsc_part rfl hi8
                      apply dq 14 rfl
                      · exact yq_on rfl rfl (q_bin rfl rfl (g_flat · yG41) fun w => b_neqFlat w yU41 yH41 (by kernel_rfl) (by kernel_rfl))
                      apply dq 15 rfl
                      · exact yq (q_pk rfl rfl)
                      refine d_end (by kernel_rfl) ?_
                      refine n_code <| t_if rfl (fun c4 => ?_) fun c4 => ?_
                      · simp at c4
                      · refine t_skip <| nz <| l_q rfl (qld rfl yA3) ?_
                        refine l_q rfl (qadd rfl rfl) ?_
                        refine st rfl rfl rfl yS3 rfl ?_
                        refine lz <| l_q rfl (qld rfl yA46) ?_
                        refine lc <| t_block ?_
                        apply t_rangeNH (p := (fun (q : Nat) (y : Nat) => y = k * N + q)) (J := (fun _ y => [pt b20 (.cells #[.int .i64 (y : Nat)] 3 (0, 0)), arenaH pa s1])) (q := (fun _ (y : Code × Unit) => False)) (Jx := (fun _ _ => [])) (x0 := j) (hc := SCells_it pa off bc s1 l S1 hP1) (hr := rfl) (hg := rfl)
                        · exact tk
                        · exact pk
                        · exact hj2
                        · (try dsimp only); (try simp only [Int.natCast_zero, Nat.sub_zero]); exact pk
                        · (try dsimp only); (try simp only [Int.natCast_zero, Nat.sub_zero]); exact pk
                        · rfl
                        · exact cellsV_two
                        · intro l3 rc3 Fr3 w3 q x3 j3 hrd3 hpn3 hx3 hj3
                          have hqN : q < N := by rw [← hlen]; exact (List.getElem?_eq_some_iff.1 hx3).1
                          obtain ⟨i3, hi83, hfi3, hck3, rfl⟩ := cellsV_at hx3
                          (try dsimp only at hj3)
                          refine t_nm ?_
                          refine t_skip ?_
                          apply n_begin
                          · exact tk
                          · assumption
                          refine t_block <| t_region <| l_q rfl (qld rfl yA3) ?_
                          refine l_q rfl (qadd rfl rfl) ?_
                          refine st rfl rfl rfl yS3 rfl ?_
                          refine l_nil <| n_blk ?_
                          apply r_next (by assumption) (by assumption) (j3 + 1) (by (try dsimp only); omega)
                          exact en
                        · intro j3 hj3
                          rw [hlen] at hj3
                          refine n_nm ?_
                          refine n_blk <| n_blk ?_
                          apply r_next (by assumption) (by assumption) (j3) (by (try dsimp only at hj3 ⊢); rw [hj3, Nat.succ_mul])
                          exact en
                        · rintro q ⟨jc, y⟩ hq hq2
                          exact hq2.elim
                · intro b2' j2 hj2
                  rw [hlen] at hj2 ⊢
                  (try dsimp only at hj2 ⊢)
                  subst hj2
                  refine n_nm ?_
                  refine n_blk <| nz <| l_q rfl (qld rfl yA28) ?_
                  refine l_q rfl (q_nilCheck rfl) <| l_q rfl (qfa 11 rfl yU44 rfl rfl yS39) <| l_q rfl (qlda rfl yA39 yS39) ?_
                  refine lc1 rfl rfl rfl (SStat_ok pa off s1 l S1 hP1) ?_
                  rw [hS1.kd, hS1.pn, hS1.nx, hS1.used, ← hNd]
                  have hNN : ((N : Nat) : Int) * ((N : Nat) : Int) = ((N * N : Nat) : Int) := by push_cast; rfl
                  have hN64 : N * N ≤ 64 := Nat.mul_le_mul hN8 hN8
                  refine mv rfl rfl <| l_q rfl (q_extractL rfl ga) ?_
                  refine l_q rfl (q_extractL rfl ga) ?_
                  refine o_allocA rfl yZ49 fun b23 => sta rfl rfl rfl yS49 rfl rfl ?_
                  refine asg rfl rfl <| lz <| mv rfl rfl <| lc1 rfl rfl rfl (num11_ok _) ?_
                  refine l_q rfl (qi rfl rfl (b_eql ·)) <| mv rfl rfl <| l_pt (t := 180) rfl (fun z1 => ?_) fun z1 => ?_
                  · refine l_on rfl rfl <| l_q rfl (qld rfl yA3) ?_
                    refine l_on rfl rfl <| l_q rfl (qfa 0 rfl yU49 rfl rfl yS3) <| l_on rfl rfl <| l_q rfl (qld rfl yA3) ?_
                    refine l_on rfl rfl <| l_q rfl (qi rfl rfl (b_eql ·)) <| l_q rfl (q_pk rfl rfl) <| mv rfl rfl <| l_pt (t := 186) rfl (fun z2 => ?_) fun z2 => ?_
                    · refine l_on rfl rfl <| l_q rfl (qld rfl yA3) ?_
                      refine l_on rfl rfl <| l_q rfl (qld rfl yA3) ?_
                      refine l_on rfl rfl <| l_q rfl (qld rfl yA3) ?_
                      refine l_on rfl rfl <| l_q rfl (qmul rfl rfl) ?_
                      refine l_on rfl rfl <| l_q rfl (qi rfl rfl (b_eql ·)) <| l_q rfl (q_pk rfl rfl) <| mv rfl rfl <| l_pt (t := 193) rfl (fun z3 => ?_) fun z3 => ?_
                      · refine l_on rfl rfl <| l_q rfl (qld rfl yA28) ?_
                        refine l_on rfl rfl <| lc1 rfl rfl rfl (holds_ok pb pa po off l vf vo _ sd m S1 ad1 s1 hP1 hS1) ?_
                        refine l_q rfl (q_pk rfl rfl) <| st rfl rfl rfl yS4 rfl ?_
                        refine lc <| rt ?_
                        apply f_retm (.inl rfl) [b2', b1'] ([G])
                        · repeat (first | with_reducible exact TakeM.nil | apply TakeM.cons | with_reducible exact Take.here | apply Take.there)
                        · apply res1 rfl
                          · apply Rv.cellL rfl
                            · exact tk
                            · exact ga
                            · exact yA4
                        · exact ⟨rfl, rfl⟩
                        · exact en
                      · exact absurd hNN.symm z3
                    · exact absurd rfl z2
                  · exact absurd rfl z1
                · rintro b2' k ⟨jc, y⟩ hk hq
                  exact hq.elim
end Go.Proofs.YtepkcjfmdenkcaaGreatDoor.BenchS
