/- SmallHolds answers true. -/
import Derived.Test.YtepkcjfmdenkcaaDoorBenchSN
set_option linter.unusedVariables false
set_option linter.unusedSimpArgs false
set_option maxRecDepth 100000
namespace Go.Proofs.YtepkcjfmdenkcaaDoor.BenchS
open Go.RowKit Go.Proofs Go.Proofs.YtepkcjfmdenkcaaDoor.Eng Go.Proofs.YtepkcjfmdenkcaaDoor.Ty Go.Proofs.YtepkcjfmdenkcaaDoor.Bits Go.Proofs.YtepkcjfmdenkcaaDoor.Mem Go.Proofs.YtepkcjfmdenkcaaDoor.Layout Go.Proofs.YtepkcjfmdenkcaaDoor.GroupB Go.Proofs.YtepkcjfmdenkcaaDoor.Group Go.Proofs.YtepkcjfmdenkcaaDoor.TableB Go.Proofs.YtepkcjfmdenkcaaDoor.TableI Go.Proofs.YtepkcjfmdenkcaaDoor.CtrlB Go.Proofs.YtepkcjfmdenkcaaDoor.Ctrl Go.Proofs.YtepkcjfmdenkcaaDoor.Small Go.Proofs.YtepkcjfmdenkcaaDoor.Arena Go.Proofs.YtepkcjfmdenkcaaDoor.Oracle Go.Proofs.YtepkcjfmdenkcaaDoor.Ref03 Go.Proofs.YtepkcjfmdenkcaaDoor.Ref11

theorem twoI_le {n : Int} {m : Nat} (hm : m ≤ 16) (h : n ≤ 16 * 2 ^ m) : twoI n ≤ 16 * 2 ^ m := by
  unfold twoI
  cases e : (List.range 17).find? (fun e => decide (n ≤ 16 * 2 ^ e)) with
  | none =>
    have := Int.pow_pos (n := 2) (m := m) (by decide)
    simp only; omega
  | some k =>
    rw [List.find?_range_eq_some] at e
    obtain ⟨h1, h2, h3⟩ := e
    have hk : k ≤ m := by
      rcases Nat.lt_or_ge m k with q | q
      · have := h3 m q; simp only [Bool.not_eq_true', decide_eq_false_iff_not] at this; exact absurd h this
      · exact q
    have p1 : 2 ^ k ≤ 2 ^ m := Nat.pow_le_pow_right (by decide) hk
    have pc := pow_cast k
    have pm := pow_cast m
    simp only
    omega
theorem fit16 {l : Lay} (hl : l.err = 0) : classI (32 + l.group) ≤ 65536 := by
  have hb := Lay.bnd hl
  have := twoI_le (n := 32 + l.group) (m := 8) (by decide) (by omega)
  unfold classI
  split
  · decide
  · split <;> omega
theorem SmallHolds_ok (G : HP) (hGT : TabOk G) (hGO : OddOk G) (vf vo vt : Value) (sd : Int) (hsd : 0 ≤ sd ∧ sd < 18446744073709551616) (xs : List Int) (os : List (ByteArray × Int)) (ts : List (Int × Int × Int)) (hA : IntsAt G vf xs) (hO : OversAt G vo os) (hn0 : ∀ n c, vo = .slice none n c → c = 0 ∧ os = []) (how : ∀ o ∈ os, 0 ≤ o.2 ∧ o.2 < 18446744073709551616) (hT : TurnsAt G vt ts) (hmt : ts.length ≤ maxLen) :
    FnOk Tryd.prog 3 #[.agg #[vf, vo, .int .u64 sd, vt]] [G] (fun v L => v = .bool true ∧ L = [G]) := by
  simp only [maxLen] at hmt
  obtain ⟨ta, tcap, rfl, hT0⟩ := hT
  refine fn_intro en3 Tryd.func3 rfl rfl rfl fun Fr w0 => t_nm ?_
  refine sr <| o_boxA rfl rfl fun b1 => asg rfl rfl <| lz <| l_q rfl (qlda rfl yA27 yS27) ?_
  refine lcf rfl rfl rfl (bench_ok G vf vo _ sd xs os hA hO hn0 65536 (by omega) (fun hl => fit16 hl)) ?_
  rintro v L' (⟨rfl, rfl⟩ | ⟨pa, pb, po, bm, off, l, s0, m, _, hl, hgo, hm0, rfl, rfl, hP0⟩)
  refine l_nm ?_
  · skip
    refine l_nm ?_
    refine mv rfl rfl <| l_q rfl (q_extractL rfl ga) ?_
    refine l_q rfl (q_extractL rfl ga) ?_
    refine l_q rfl (q_extractL rfl ga) ?_
    refine asg rfl rfl <| asg rfl rfl <| asg rfl rfl <| lc <| t_seq <| sr <| mv rfl rfl <| l_q rfl (q_un rfl (u_not ·)) <| lc <| t_if rfl (fun p1 => ?_) fun p1 => ?_
    · exact sr <| asg rfl rfl <| lc <| rt <| fr1 rfl ([G]) (.tmp rfl) ⟨rfl, rfl⟩
    · cases p1
  · have hm : OverOk m := by rw [hm0]; exact mapO_ok how
    have hS0 : SB (tgF m sd) newS := SB.new
    refine l_nm ?_
    refine mv rfl rfl <| l_q rfl (q_extractL rfl ga) ?_
    refine l_q rfl (q_extractL rfl ga) ?_
    refine l_q rfl (q_extractL rfl ga) ?_
    refine asg rfl rfl <| asg rfl rfl <| asg rfl rfl <| lc <| t_seq <| sr <| mv rfl rfl <| l_q rfl (q_un rfl (u_not ·)) <| lc <| t_if rfl (fun p1 => ?_) fun p1 => ?_
    · cases p1
    · refine t_skip <| n_code <| t_seq <| sr <| mv rfl rfl <| l_q rfl (q_un rfl (u_not ·)) <| mv rfl rfl <| l_pt (t := 18) rfl (fun p2 => ?_) fun p2 => ?_
      · cases p2
      · refine l_on rfl rfl <| mv rfl rfl <| l_on rfl rfl <| lc1 rfl rfl rfl (holds_ok pb pa po off l vf vo _ sd m newS 0 s0 hP0 hS0) ?_
        refine l_on rfl rfl <| l_q rfl (q_un rfl (u_not ·)) <| l_q rfl (q_pk rfl rfl) <| lc <| t_if rfl (fun p3 => ?_) fun p3 => ?_
        · cases p3
        · refine t_skip <| n_code <| t_seq <| sr <| l_q rfl (qfa 3 rfl yU27 rfl rfl yS25) <| l_q rfl (qld rfl yA25) ?_
          refine l_q rfl (ql rfl yU25) <| mv rfl rfl <| lc <| t_block ?_
          refine t_loop (fun x : Nat × ArS × Sm × Nat => x.1 ≤ ts.length ∧ SmP x.2.1 off l x.2.2.1 ∧ SB (tgF m sd) x.2.2.1 ∧ x.2.2.2 ≤ x.1) (fun x => [(3, .pointer (some ⟨pb, 0, none⟩)), (24, .slice ta ts.length tcap), (25, .int .i64 (ts.length : Nat)), (26, .int .i64 (x.1 : Nat))]) (fun x => pt pb (.cells (bsc pa po l off vf vo sd (.slice ta ts.length tcap) x.2.2.1.cells x.2.2.2).toArray 59 (0, 0)) :: pt po (.cells #[.map (some bm)] 93 (0, 0)) :: mapH (fun k : ByteArray => Value.string k) bm m :: G :: arenaH pa x.2.1 :: Fr) (fun x => ts.length - x.1) (0, s0, newS, 0) ⟨Nat.zero_le _, hP0, hS0, Nat.le_refl _⟩ ⟨rfl, rfl, rfl, rfl, trivial⟩ (by (exact en)) ?_
          rintro ⟨i, s, S, ad⟩ ⟨hi, hP, hS, had⟩
          dsimp only at hi hP hS had ⊢
          refine sr <| l_q rfl (qi rfl rfl (b_lss ·)) <| lc <| t_seq <| t_if rfl (fun g1 => ?_) fun g1 => ?_
          · skip
            obtain ⟨tb, to, rfl, hT1⟩ := hT0 (by omega)
            obtain ⟨t, ht⟩ : ∃ t, ts[i]? = some t := ⟨ts[i], List.getElem?_eq_getElem (by omega)⟩
            have hcell := cell_turn hT1 ht
            refine t_skip <| n_code <| t_seq <| t_block <| sr <| l_q rfl (q_indexAddr rfl rfl yU25 yS33 (by omega)) ?_
            apply l_q rfl
            · apply q_loadRA (A := G) (us := [.int .i64 t.1, .int .i64 t.2.1, .int .i64 t.2.2]) rfl yA33 yS33 rfl
              · exact tk
              · exact hcell
            refine o_allocA rfl yZ33 fun b7 => sta rfl rfl rfl yS33 rfl rfl ?_
            refine lz <| mv rfl rfl <| l_q rfl (qlda rfl yA33 yS33) ?_
            refine lcf rfl rfl rfl (turn_ok pb pa po bm off l vf vo _ sd m G hGT hGO hm hsd hl S ad s hP hS (by omega) t.1 t.2.1 t.2.2) ?_
            rintro v L' ⟨s', S', ad', rfl, rfl, hP', hS', had'⟩
            refine l_nm ?_
            refine l_q rfl (q_un rfl (u_not ·)) <| mv rfl rfl <| l_pt (t := 34) rfl (fun g2 => ?_) fun g2 => ?_
            · cases g2
            · refine l_on rfl rfl <| mv rfl rfl <| l_on rfl rfl <| lc1 rfl rfl rfl (holds_ok pb pa po off l vf vo _ sd m S' ad' s' hP' hS') ?_
              refine l_on rfl rfl <| l_q rfl (q_un rfl (u_not ·)) <| l_q rfl (q_pk rfl rfl) <| lc <| t_if rfl (fun g3 => ?_) fun g3 => ?_
              · cases g3
              · refine t_skip <| n_blk <| n_code <| t_region <| l_q rfl (qadd rfl rfl) ?_
                refine mv rfl rfl <| l_nil ?_
                apply n_again ((i + 1, s', S', ad'))
                · exact ⟨by dsimp only; omega, hP', hS', by dsimp only; omega⟩
                · dsimp only; omega
                · exact ⟨rfl, rfl, rfl, rfl, trivial⟩
                · exact en
          · exact xt rfl <| nz <| asg rfl rfl <| lc <| rt <| fr1 rfl ([G]) (.tmp rfl) ⟨rfl, rfl⟩
end Go.Proofs.YtepkcjfmdenkcaaDoor.BenchS
