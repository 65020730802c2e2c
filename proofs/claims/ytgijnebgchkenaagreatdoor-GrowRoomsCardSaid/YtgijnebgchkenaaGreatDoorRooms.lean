import Derived.Test.YtgijnebgchkenaaGreatDoorPruneL
import Derived.Test.YtgijnebgchkenaaGreatDoorGrowK
import Derived.Test.YtgijnebgchkenaaGreatDoorGrowC
/- GrowRooms answers true. -/
set_option linter.unusedVariables false
set_option linter.unusedSimpArgs false
set_option maxRecDepth 100000
namespace Go.Proofs.YtgijnebgchkenaaGreatDoor.Grow
open Go.RowKit Go.Proofs Go.Proofs.YtgijnebgchkenaaGreatDoor.Eng Go.Proofs.YtgijnebgchkenaaGreatDoor.Ty Go.Proofs.YtgijnebgchkenaaGreatDoor.Bits Go.Proofs.YtgijnebgchkenaaGreatDoor.Mem Go.Proofs.YtgijnebgchkenaaGreatDoor.Search Go.Proofs.YtgijnebgchkenaaGreatDoor.Arena Go.Proofs.YtgijnebgchkenaaGreatDoor.CtrlB Go.Proofs.YtgijnebgchkenaaGreatDoor.Ctrl Go.Proofs.YtgijnebgchkenaaGreatDoor.Layout Go.Proofs.YtgijnebgchkenaaGreatDoor.GroupB Go.Proofs.YtgijnebgchkenaaGreatDoor.Group Go.Proofs.YtgijnebgchkenaaGreatDoor.Probe Go.Proofs.YtgijnebgchkenaaGreatDoor.TableB Go.Proofs.YtgijnebgchkenaaGreatDoor.TableI Go.Proofs.YtgijnebgchkenaaGreatDoor.Table Go.Proofs.YtgijnebgchkenaaGreatDoor.Bench Go.Proofs.YtgijnebgchkenaaGreatDoor.Cells Go.Proofs.YtgijnebgchkenaaGreatDoor.Refill Go.Proofs.YtgijnebgchkenaaGreatDoor.Oracle Go.Proofs.YtgijnebgchkenaaGreatDoor.Ref03

/-- A key that is no letter: "+". -/
def plusK : ByteArray := ⟨#[43]⟩
theorem plus_size : plusK.size = 1 := by kernel_rfl
theorem plus_not : ((List.range 62).all fun i => !((letter i).data == plusK.data)) = true := by kernel_rfl
theorem plus_no {i : Nat} (h : i < 62) : letter i ≠ plusK := fun e => by
  have := List.all_eq_true.1 plus_not i (List.mem_range.2 h)
  rw [e] at this
  simp at this
/-- A table filled with letters has room for one key more. -/
theorem rf_plus {n N : Nat} {H : ByteArray → Int} {T U : Tb} {lives : List Life} {e : Nat} (hN : N = 2 ^ e) (hT : LT n H T) (h : RF H T.cells (8 * n) N U lives (cnt isFull T.cells (8 * n))) (hroom : cnt isFull T.cells (8 * n) < 7 * N) : (putT N U (H plusK) plusK plusK 0).1 = 2 := by
  have hN0 : 0 < N := by rw [hN]; exact Nat.two_pow_pos e
  have hr := putR (T := U) (h := H plusK) (key := plusK) hN0 (fun g hg => gk_onto hN hg) plusK 0
  have hno : placeL lives plusK = none := place_not fun j u hu e => by
    obtain ⟨i', h1, h2, h3, h4, _⟩ := h.of (Nat.le_refl _) hu
    obtain ⟨i, hi, hk⟩ := hT.let' i' h1 h2
    exact plus_no hi (hk.symm.trans (h4.symm.trans e))
  rcases h.bi.put_newB trivial hno hr with ⟨_, _, h3⟩ | ⟨h1, _⟩
  · omega
  · exact h1
theorem cls_fit2 (size : Int) : (64 + classI ((nOf size * gN l64 : Nat) : Int)) + (64 + classI ((nOf size * gN l64 : Nat) : Int)) + (64 + classI ((nOf size * gN l64 : Nat) : Int)) ≤ 65536 := by
  have := eOf_le size
  rw [gN64]
  unfold nOf
  have : eOf size = 1 ∨ eOf size = 2 ∨ eOf size = 3 := by omega
  rcases this with e | e | e <;> rw [e] <;> decide
theorem choose_cases {us sl dp lim : Int} (hm : mostI sl ≠ 0) (h0 : 0 ≤ us) (hu : us ≤ mostI sl) (hd : 0 ≤ dp ∧ dp ≤ 6) :
    (chooseI us sl dp lim = 1 ∧ 2 * us ≤ mostI sl) ∨ (chooseI us sl dp lim = 2 ∧ (2 * sl ≤ lim ∨ dp = 6)) ∨ (chooseI us sl dp lim = 3 ∧ ¬ 2 * sl ≤ lim ∧ dp ≠ 6) := by
  unfold chooseI
  rw [if_neg (by omega)]
  by_cases h1 : 2 * us ≤ mostI sl
  · rw [if_pos h1]; exact .inl ⟨rfl, h1⟩
  · rw [if_neg h1]
    by_cases h2 : 2 * sl ≤ lim ∨ dp = 6
    · rw [if_pos h2]; exact .inr (.inl ⟨rfl, h2⟩)
    · rw [if_neg h2]; exact .inr (.inr ⟨rfl, fun q => h2 (.inl q), fun q => h2 (.inr q)⟩)
theorem GrowRooms_ok (G : HP) (hGT : TabOk G) (hGO : OddOk G) (seed size depth : Int) (vh vs : Value) (hs : List Int) (ts : List (Int × Int × Bool)) (hL : LifeAt G seed size depth vh vs hs ts) (lim : Int) (hlim : -9223372036854775808 ≤ lim ∧ lim ≤ 9223372036854775807) :
    FnOk Tryz.prog 7 #[.agg #[.int .u64 seed, .int .i64 size, .int .i64 depth, vh, vs], .int .i64 lim] [G] (fun v L => v = .bool true ∧ L = [G]) := by
  obtain ⟨hfit, hc1, hc2⟩ := cls_fit size
  have hfit1 := cls_fit1 size
  have hn2 := nOf_le size
  have hm := osOf_ok hL.hashWf
  have hseed := hL.seed
  have hd1 := Int.emod_nonneg depth (show (6 : Int) ≠ 0 by decide)
  have hd2 := Int.emod_lt_of_pos depth (show (0 : Int) < 6 by decide)
  refine fn_intro en7 Tryz.func7 rfl rfl rfl fun Fr w0 => t_nm ?_
  refine sr <| o_boxA rfl rfl fun b2 => asg rfl rfl <| lz <| l_q rfl (qlda rfl yA72 yS72) ?_
  refine lcf rfl rfl rfl (live_ok G hGT hGO seed size depth vh vs hs ts hL 65536 (by decide) (by omega)) ?_
  rintro v L' ⟨pa, po, bm, off, s, T, rfl, rfl, hW, hl, hv, hK⟩
  refine l_nm ?_
  refine mv rfl rfl <| l_q rfl (q_extractL rfl ga) ?_
  refine l_q rfl (q_extractL rfl ga) ?_
  refine o_allocA rfl yZ76 fun b5 => sta rfl rfl rfl yS76 rfl rfl ?_
  refine asg rfl rfl <| lc <| t_seq <| sr <| mv rfl rfl <| l_q rfl (q_un rfl (u_not ·)) <| mv rfl rfl <| l_pt (t := 37) rfl (fun z1 => ?_) fun z1 => ?_
  · simp at z1
  · refine l_on rfl rfl <| lc1 rfl rfl rfl (fixed_ok G hGT hGO) ?_
    refine l_on rfl rfl <| l_q rfl (q_un rfl (u_not ·)) <| l_q rfl (q_pk rfl rfl) <| lc <| t_if rfl (fun z2 => ?_) fun z2 => ?_
    · simp at z2
    · refine t_skip <| nz <| l_q rfl (qfa 2 rfl yU76 rfl rfl yS34) <| l_q rfl (qlda rfl yA34 yS34) ?_
      refine l_q rfl (qfa 1 rfl yU76 rfl rfl yS74) <| l_q rfl (qld rfl yA74) ?_
      refine l_q rfl (qfa 0 rfl yU72 rfl rfl yS52) <| l_q rfl (qld rfl yA52) ?_
      have hlb := hW.bnd
      have hn0 : 0 < nOf size := by omega
      refine lcf rfl rfl rfl (Prune_ok G hGT hGO pa off po bm (nOf size) (eOf size) s l64 T _ hm seed hseed hW.tab hW.lt) ?_
      rintro v L' ⟨s', b', k, rfl, rfl, hPB, hcnt, hP', hS'⟩
      refine l_nm ?_
      have hT' := lt_prune hW.lt b' (fun g hp => hPB.all hp) hcnt
      have hkb := cnt_le isDel T.cells (8 * nOf size)
      have hlv' : s'.live = s.live := by unfold ArS.live; rw [hS'.bl]
      have hli' : s'.limit = 65536 := hS'.limit.trans hl
      obtain ⟨U0, hU0⟩ : ∃ U0 : Tb, U0 = { T with cells := pruneT T.cells b', left := T.left + (k : Int) } := ⟨_, rfl⟩
      have hU0l : U0.left = T.left + k := by rw [hU0]
      have hU0d : U0.depth = T.depth := by rw [hU0]
      rw [← hU0] at hP' hT'
      have hdT : 0 ≤ U0.depth ∧ U0.depth ≤ 5 := by rw [hU0d, hK.depth]; show 0 ≤ depth % 6 ∧ depth % 6 ≤ 5; omega
      have hcu := hT'.cnt.used
      have hcl := hT'.cnt.left
      have hcr := hT'.cnt.room
      have hfull := cnt_le isFull U0.cells (8 * nOf size)
      refine mv rfl rfl <| l_q rfl (q_extractL rfl ga) ?_
      refine l_q rfl (q_extractL rfl ga) ?_
      refine asg rfl rfl <| asg rfl rfl <| lz <| l_q rfl (qfa 2 rfl yU76 rfl rfl yS34) <| l_q rfl (qlda rfl yA34 yS34) ?_
      refine lc1 rfl rfl rfl (StatP_ok pa off (off + 64) (nOf size) (eOf size) s' l64 _ hP') ?_
      refine mv rfl rfl <| l_q rfl (q_extractL rfl ga) ?_
      refine l_q rfl (q_extractL rfl ga) ?_
      refine o_allocA rfl yZ47 fun b9 => sta rfl rfl rfl yS47 rfl rfl ?_
      refine asg rfl rfl <| lc <| t_seq <| sr <| mv rfl rfl <| l_q rfl (qi rfl rfl (b_neq ·)) <| mv rfl rfl <| l_pt (t := 59) rfl (fun c1 => ?_) fun c1 => ?_
      · exact absurd rfl c1
      · refine l_on rfl rfl <| mv rfl rfl <| l_on rfl rfl <| l_q rfl (qi rfl rfl (b_neq ·)) <| l_q rfl (q_pk rfl rfl) <| mv rfl rfl <| l_pt (t := 63) rfl (fun c2 => ?_) fun c2 => ?_
        · exact absurd rfl c2
        · refine l_on rfl rfl <| l_q rfl (qfa 1 rfl yU47 rfl rfl yS3) <| l_on rfl rfl <| l_q rfl (qld rfl yA3) ?_
          refine l_on rfl rfl <| l_q rfl (qi rfl rfl (b_lss ·)) <| l_q rfl (q_pk rfl rfl) <| lc <| t_if rfl (fun c3 => ?_) fun c3 => ?_
          · omega
          · refine t_skip <| n_code <| t_seq <| sr <| l_q rfl (qfa 2 rfl yU47 rfl rfl yS3) <| l_q rfl (qld rfl yA3) ?_
            refine l_q rfl (qi rfl rfl (b_gtr ·)) <| mv rfl rfl <| l_pt (t := 71) rfl (fun c4 => ?_) fun c4 => ?_
            · refine l_off rfl rfl rfl rfl <| l_off rfl rfl rfl rfl <| l_q rfl (q_pk rfl rfl) <| lc <| t_cond_t rfl <| sr <| l_q rfl (qfa 2 rfl yU47 rfl rfl yS3) <| l_q rfl (qld rfl yA3) ?_
              refine l_q rfl (qi rfl rfl (b_gtr ·)) <| asg rfl rfl <| lc <| rt <| fr1 rfl ([G]) (.tmp rfl) ?_
              exact ⟨by rw [decide_eq_true c4], rfl⟩
            · refine l_on rfl rfl <| mv rfl rfl <| l_on rfl rfl <| l_q rfl (qi rfl rfl (b_gtr ·)) <| l_q rfl (q_pk rfl rfl) <| lc <| t_if rfl (fun c5 => ?_) fun c5 => ?_
              · omega
              · skip
                have hhb := hashF_bnd hm seed plusK
                have hmost : mostI (8 * ((nOf size : Nat) : Int)) = 7 * ((nOf size : Nat) : Int) := by
                  have := most8 (eOf size) (by have := eOf_le size; omega)
                  unfold nOf
                  rw [← pow_cast] at this
                  exact this
                have hcc := choose_cases (us := U0.used) (sl := 8 * ((nOf size : Nat) : Int)) (dp := U0.depth) (lim := lim) (by omega) (by omega) (by omega) ⟨hdT.1, by omega⟩
                rw [hmost] at hcc
                have hsm1 : ((nOf size * gN l64 : Nat) : Int) ≤ 1048576 := by rw [gN64]; omega
                have hsm2 : ((2 * nOf size * gN l64 : Nat) : Int) ≤ 1048576 := by rw [gN64]; omega
                refine t_skip <| nz <| asg rfl rfl <| lz <| l_q rfl (qfa 1 rfl yU76 rfl rfl yS74) <| l_q rfl (qld rfl yA74) ?_
                refine l_q rfl (qfa 0 rfl yU72 rfl rfl yS52) <| l_q rfl (qld rfl yA52) ?_
                refine mv rfl rfl ?_
                refine lc1 rfl rfl rfl (Hash_ok G hGO po bm _ hm seed hseed plusK (by rw [plus_size]; omega)) ?_
                refine asg rfl rfl <| lc <| t_seq <| sr <| l_q rfl (qlda rfl yA47 yS47) ?_
                refine mv rfl rfl <| lc1 rfl rfl rfl (Choose_ok _ _ _ _ _ _ _ _ _ hlim) ?_
                refine lc <| t_block <| sr <| l_q rfl (qi rfl rfl (b_eql ·)) <| asg rfl rfl <| lc <| t_if rfl (fun y1 => ?_) fun y1 => ?_
                · refine sr <| l_q rfl (qfa 2 rfl yU76 rfl rfl yS34) <| l_q rfl (qlda rfl yA34 yS34) ?_
                  refine l_q rfl (qfa 1 rfl yU76 rfl rfl yS74) <| l_q rfl (qld rfl yA74) ?_
                  refine l_q rfl (qfa 0 rfl yU72 rfl rfl yS52) <| l_q rfl (qld rfl yA52) ?_
                  have hhalf : 2 * U0.used ≤ 7 * ((nOf size : Nat) : Int) := by omega
                  refine lcf rfl rfl rfl (FnOk.mono (Renew_ok G hGT hGO pa off po bm (nOf size) (eOf size) (nOf size) (eOf size) s' l64 U0 _ hm seed hseed hP' hT' ⟨hdT.1, by omega⟩) (fun v L h => Anew.fits h hsm1 (by omega))) ?_
                  rintro v L' ⟨s1, U1, lives1, rfl, rfl, hT1, hR1, hN1, hK1, hO1⟩
                  refine l_nm ?_
                  refine mv rfl rfl <| l_q rfl (q_extractL rfl ga) ?_
                  refine l_q rfl (q_extractL rfl ga) ?_
                  refine o_allocA rfl yZ34 fun b13 => sta rfl rfl rfl yS34 rfl rfl ?_
                  refine asg rfl rfl <| lz <| l_q rfl (qlda rfl yA34 yS34) ?_
                  obtain ⟨hu1, hu2, _, _⟩ := hR1.counts
                  refine lc1 rfl rfl rfl (StatP_ok pa s'.stop (s'.stop + 64) (nOf size) (eOf size) s1 l64 U1 hT1) ?_
                  refine mv rfl rfl <| l_q rfl (q_extractL rfl ga) ?_
                  refine l_q rfl (q_extractL rfl ga) ?_
                  refine o_allocA rfl yZ47 fun b15 => sta rfl rfl rfl yS47 rfl rfl ?_
                  refine asg rfl rfl <| lz <| l_q rfl (qlda rfl yA34 yS34) ?_
                  refine mv rfl rfl <| mv rfl rfl <| mv rfl rfl ?_
                  have hput := rf_plus hP'.hn hT' hR1 (by omega)
                  refine lcf rfl rfl rfl (Put_ok G hGT pa s'.stop (s'.stop + 64) (nOf size) (eOf size) s1 l64 U1 hT1 _ hhb plusK plusK (by rw [plus_size, kN64]) (by rw [plus_size, eN64]) 0 (by omega) (by omega) (by omega)) ?_
                  rintro v L' ⟨s2, rfl, rfl, hT2, hS2⟩
                  refine l_nm ?_
                  rw [hput]
                  refine mv rfl rfl <| l_q rfl (q_extractL rfl ga) ?_
                  refine l_q rfl (q_extractL rfl ga) ?_
                  refine asg rfl rfl <| asg rfl rfl <| lz <| mv rfl rfl <| l_q rfl (qi rfl rfl (b_eql ·)) <| mv rfl rfl <| l_pt (t := 114) rfl (fun d1 => ?_) fun d1 => ?_
                  · refine l_on rfl rfl <| mv rfl rfl <| l_on rfl rfl <| l_q rfl (qi rfl rfl (b_eql ·)) <| l_q rfl (q_pk rfl rfl) <| mv rfl rfl <| l_pt (t := 118) rfl (fun d2 => ?_) fun d2 => ?_
                    · refine l_on rfl rfl <| mv rfl rfl <| l_on rfl rfl <| l_q rfl (qi rfl rfl (b_eql ·)) <| l_q rfl (q_pk rfl rfl) <| mv rfl rfl <| l_pt (t := 122) rfl (fun d3 => ?_) fun d3 => ?_
                      · refine l_on rfl rfl <| mv rfl rfl <| l_on rfl rfl <| l_q rfl (qi rfl rfl (b_eql ·)) <| l_q rfl (q_pk rfl rfl) <| mv rfl rfl <| l_pt (t := 126) rfl (fun d4 => ?_) fun d4 => ?_
                        · refine l_on rfl rfl <| l_q rfl (qfa 2 rfl yU47 rfl rfl yS3) <| l_on rfl rfl <| l_q rfl (qld rfl yA3) ?_
                          refine l_on rfl rfl <| l_q rfl (qfa 0 rfl yU47 rfl rfl yS3) <| l_on rfl rfl <| l_q rfl (qld rfl yA3) ?_
                          refine l_on rfl rfl <| l_q rfl (qi rfl rfl (b_geq ·)) <| l_q rfl (q_pk rfl rfl) <| mv rfl rfl <| l_pt (t := 133) rfl (fun d5 => ?_) fun d5 => ?_
                          · refine l_on rfl rfl <| l_q rfl (qfa 0 rfl yU47 rfl rfl yS3) <| l_on rfl rfl <| l_q rfl (qld rfl yA3) ?_
                            refine l_on rfl rfl <| l_q rfl (qmul rfl rfl) ?_
                            refine l_on rfl rfl <| l_q rfl (qfa 1 rfl yU47 rfl rfl yS3) <| l_on rfl rfl <| l_q rfl (qld rfl yA3) ?_
                            refine l_on rfl rfl <| l_q rfl (qquo rfl rfl) ?_
                            refine l_on rfl rfl <| l_q rfl (qmul rfl rfl) ?_
                            refine l_on rfl rfl <| l_q rfl (qi rfl rfl (b_leq ·)) <| l_q rfl (q_pk rfl rfl) <| asg rfl rfl <| lc <| rt <| fr1 rfl ([G]) (.tmp rfl) ?_
                            exact ⟨by rw [decide_eq_true (by omega)], rfl⟩
                          · omega
                        · exact absurd rfl d4
                      · exact absurd rfl d3
                    · exact absurd rfl d2
                  · exact absurd rfl d1
                · refine sr <| l_q rfl (qi rfl rfl (b_eql ·)) <| asg rfl rfl <| lc <| t_if rfl (fun y2 => ?_) fun y2 => ?_
                  · refine sr <| l_q rfl (qfa 2 rfl yU76 rfl rfl yS34) <| l_q rfl (qlda rfl yA34 yS34) ?_
                    refine l_q rfl (qfa 1 rfl yU76 rfl rfl yS74) <| l_q rfl (qld rfl yA74) ?_
                    refine l_q rfl (qfa 0 rfl yU72 rfl rfl yS52) <| l_q rfl (qld rfl yA52) ?_
                    have hdbl : 2 * (8 * ((nOf size : Nat) : Int)) ≤ lim := by omega
                    refine lcf rfl rfl rfl (FnOk.mono (Double_ok G hGT hGO pa off po bm (nOf size) (eOf size) (2 * nOf size) (eOf size + 1) s' l64 U0 _ hm seed hseed hP' hT' rfl ⟨hdT.1, by omega⟩ (by unfold nOf; rw [Nat.pow_succ]; omega) (by have := eOf_le size; omega)) (fun v L h => Anew.fits h hsm2 (by omega))) ?_
                    rintro v L' ⟨s1, U1, lives1, rfl, rfl, hT1, hR1, hN1, hK1, hO1⟩
                    refine l_nm ?_
                    refine mv rfl rfl <| l_q rfl (q_extractL rfl ga) ?_
                    refine l_q rfl (q_extractL rfl ga) ?_
                    refine o_allocA rfl yZ34 fun b19 => sta rfl rfl rfl yS34 rfl rfl ?_
                    refine asg rfl rfl <| lz <| l_q rfl (qlda rfl yA34 yS34) ?_
                    refine mv rfl rfl <| mv rfl rfl <| mv rfl rfl ?_
                    obtain ⟨hu1, hu2, _, _⟩ := hR1.counts
                    have hput := rf_plus (e := eOf size + 1) (by unfold nOf; rw [Nat.pow_succ]; omega) hT' hR1 (by omega)
                    refine lcf rfl rfl rfl (Put_ok G hGT pa s'.stop (s'.stop + 64) (2 * nOf size) (eOf size + 1) s1 l64 U1 hT1 _ hhb plusK plusK (by rw [plus_size, kN64]) (by rw [plus_size, eN64]) 0 (by omega) (by omega) (by omega)) ?_
                    rintro v L' ⟨s2, rfl, rfl, hT2, hS2⟩
                    refine l_nm ?_
                    rw [hput]
                    refine mv rfl rfl <| l_q rfl (q_extractL rfl ga) ?_
                    refine l_q rfl (q_extractL rfl ga) ?_
                    refine asg rfl rfl <| asg rfl rfl <| lz <| mv rfl rfl <| l_q rfl (qi rfl rfl (b_eql ·)) <| mv rfl rfl <| l_pt (t := 165) rfl (fun d1 => ?_) fun d1 => ?_
                    · refine l_on rfl rfl <| mv rfl rfl <| l_on rfl rfl <| l_q rfl (qi rfl rfl (b_eql ·)) <| l_q rfl (q_pk rfl rfl) <| mv rfl rfl <| l_pt (t := 169) rfl (fun d2 => ?_) fun d2 => ?_
                      · refine l_on rfl rfl <| mv rfl rfl <| l_on rfl rfl <| l_q rfl (qi rfl rfl (b_eql ·)) <| l_q rfl (q_pk rfl rfl) <| mv rfl rfl <| l_pt (t := 173) rfl (fun d3 => ?_) fun d3 => ?_
                        · refine l_on rfl rfl <| l_q rfl (qfa 1 rfl yU47 rfl rfl yS3) <| l_on rfl rfl <| l_q rfl (qld rfl yA3) ?_
                          refine l_on rfl rfl <| l_q rfl (qmul rfl rfl) ?_
                          refine l_on rfl rfl <| mv rfl rfl <| l_on rfl rfl <| l_q rfl (qi rfl rfl (b_leq ·)) <| l_on rfl rfl <| mv rfl rfl <| l_pt (t := 179) rfl (fun d4 => ?_) fun d4 => ?_
                          · exact l_off rfl rfl rfl rfl <| l_off rfl rfl rfl rfl <| l_off rfl rfl rfl rfl <| l_on rfl rfl <| l_q rfl (q_pk rfl rfl) <| l_q rfl (q_pk rfl rfl) <| asg rfl rfl <| lc <| rt <| fr1 rfl ([G]) (.tmp rfl) ⟨rfl, rfl⟩
                          · omega
                        · exact absurd rfl d3
                      · exact absurd rfl d2
                    · exact absurd rfl d1
                  · refine sr <| l_q rfl (qi rfl rfl (b_eql ·)) <| asg rfl rfl <| lc <| t_if rfl (fun y3 => ?_) fun y3 => ?_
                    · refine sr <| l_q rfl (qfa 2 rfl yU76 rfl rfl yS34) <| l_q rfl (qlda rfl yA34 yS34) ?_
                      refine l_q rfl (qfa 1 rfl yU76 rfl rfl yS74) <| l_q rfl (qld rfl yA74) ?_
                      refine l_q rfl (qfa 0 rfl yU72 rfl rfl yS52) <| l_q rfl (qld rfl yA52) ?_
                      have hno : ¬ 2 * (8 * ((nOf size : Nat) : Int)) ≤ lim := by omega
                      have hfit2 := cls_fit2 size
                      refine lcf rfl rfl rfl (Split_ok G hGT hGO pa off po bm (nOf size) (eOf size) s' l64 U0 _ hm seed hseed hP' hT' hdT hsm1 (by omega)) ?_
                      rintro v L' ⟨s1, s2, U1, U2, L1, L2, rfl, rfl, hO2, hT1, hT2, hS1, hS2, ho1, ho2, hli, hlv, hmm, hbl⟩
                      refine l_nm ?_
                      refine mv rfl rfl <| l_q rfl (q_extractL rfl ga) ?_
                      refine l_q rfl (q_extractL rfl ga) ?_
                      refine l_q rfl (q_extractL rfl ga) ?_
                      refine o_allocA rfl yZ34 fun b23 => o_allocA rfl yZ34 fun b24 => sta rfl rfl rfl yS34 rfl rfl ?_
                      refine sta rfl rfl rfl yS34 rfl rfl ?_
                      refine asg rfl rfl <| lz <| l_q rfl (qlda rfl yA34 yS34) ?_
                      obtain ⟨hu1, hu2, _, _⟩ := hS1.rf.counts
                      obtain ⟨hv1, hv2, _, _⟩ := hS2.rf.counts
                      have hsc := side_cnt (H := hashF (mapO (osOf hs)) seed) (d := U0.depth) (cs := U0.cells) (8 * nOf size)
                      refine lc1 rfl rfl rfl (StatP_ok pa s'.stop (s'.stop + 64) (nOf size) (eOf size) s2 l64 U1 hT1) ?_
                      refine mv rfl rfl <| l_q rfl (q_extractL rfl ga) ?_
                      refine l_q rfl (q_extractL rfl ga) ?_
                      refine o_allocA rfl yZ47 fun b26 => sta rfl rfl rfl yS47 rfl rfl ?_
                      refine asg rfl rfl <| lz <| l_q rfl (qlda rfl yA34 yS34) ?_
                      refine lc1 rfl rfl rfl (StatP_ok pa s1.stop (s1.stop + 64) (nOf size) (eOf size) s2 l64 U2 hT2) ?_
                      refine mv rfl rfl <| l_q rfl (q_extractL rfl ga) ?_
                      refine l_q rfl (q_extractL rfl ga) ?_
                      refine o_allocA rfl yZ47 fun b28 => sta rfl rfl rfl yS47 rfl rfl ?_
                      refine asg rfl rfl <| lz <| mv rfl rfl <| l_q rfl (qi rfl rfl (b_eql ·)) <| mv rfl rfl <| l_pt (t := 210) rfl (fun d1 => ?_) fun d1 => ?_
                      · refine l_on rfl rfl <| mv rfl rfl <| l_on rfl rfl <| l_q rfl (qi rfl rfl (b_eql ·)) <| l_q rfl (q_pk rfl rfl) <| mv rfl rfl <| l_pt (t := 214) rfl (fun d2 => ?_) fun d2 => ?_
                        · refine l_on rfl rfl <| mv rfl rfl <| l_on rfl rfl <| l_q rfl (qi rfl rfl (b_eql ·)) <| l_q rfl (q_pk rfl rfl) <| mv rfl rfl <| l_pt (t := 218) rfl (fun d3 => ?_) fun d3 => ?_
                          · refine l_on rfl rfl <| l_q rfl (qfa 2 rfl yU47 rfl rfl yS3) <| l_on rfl rfl <| l_q rfl (qld rfl yA3) ?_
                            refine l_on rfl rfl <| l_q rfl (qfa 2 rfl yU47 rfl rfl yS3) <| l_on rfl rfl <| l_q rfl (qld rfl yA3) ?_
                            refine l_on rfl rfl <| l_q rfl (qadd rfl rfl) ?_
                            refine l_on rfl rfl <| l_q rfl (qfa 1 rfl yU47 rfl rfl yS3) <| l_on rfl rfl <| l_q rfl (qld rfl yA3) ?_
                            refine l_on rfl rfl <| l_q rfl (qquo rfl rfl) ?_
                            refine l_on rfl rfl <| l_q rfl (qmul rfl rfl) ?_
                            refine l_on rfl rfl <| l_q rfl (qmul rfl rfl) ?_
                            refine l_on rfl rfl <| l_q rfl (qfa 0 rfl yU47 rfl rfl yS3) <| l_on rfl rfl <| l_q rfl (qld rfl yA3) ?_
                            refine l_on rfl rfl <| l_q rfl (qsub rfl rfl) ?_
                            refine l_on rfl rfl <| l_q rfl (qi rfl rfl (b_eql ·)) <| l_q rfl (q_pk rfl rfl) <| mv rfl rfl <| l_pt (t := 234) rfl (fun d4 => ?_) fun d4 => ?_
                            · refine l_on rfl rfl <| l_q rfl (qfa 1 rfl yU47 rfl rfl yS3) <| l_on rfl rfl <| l_q rfl (qld rfl yA3) ?_
                              refine l_on rfl rfl <| l_q rfl (qmul rfl rfl) ?_
                              refine l_on rfl rfl <| mv rfl rfl <| l_on rfl rfl <| l_q rfl (qi rfl rfl (b_gtr ·)) <| l_q rfl (q_pk rfl rfl) <| mv rfl rfl <| l_pt (t := 241) rfl (fun d5 => ?_) fun d5 => ?_
                              · refine l_on rfl rfl <| l_q rfl (qfa 3 rfl yU47 rfl rfl yS3) <| l_on rfl rfl <| l_q rfl (qld rfl yA3) ?_
                                refine l_on rfl rfl <| l_q rfl (qi rfl rfl (b_lss ·)) <| l_q rfl (q_pk rfl rfl) <| asg rfl rfl <| lc <| rt <| fr1 rfl ([G]) (.tmp rfl) ?_
                                exact ⟨by rw [decide_eq_true (by omega)], rfl⟩
                              · omega
                            · omega
                          · exact absurd rfl d3
                        · exact absurd rfl d2
                      · exact absurd rfl d1
                    · omega
end Go.Proofs.YtgijnebgchkenaaGreatDoor.Grow
