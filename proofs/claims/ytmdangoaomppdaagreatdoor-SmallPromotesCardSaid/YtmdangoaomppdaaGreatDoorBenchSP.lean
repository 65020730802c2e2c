/- larderlaw11: promoted; SmallPromotes answers true. -/
import Derived.Test.YtmdangoaomppdaaGreatDoorSHolds
import Derived.Test.YtmdangoaomppdaaGreatDoorPromote
import Derived.Test.YtmdangoaomppdaaGreatDoorRef02
set_option linter.unusedVariables false
set_option linter.unusedSimpArgs false
set_option maxRecDepth 100000
namespace Go.Proofs.YtmdangoaomppdaaGreatDoor.BenchS
open Go.RowKit Go.Proofs Go.Proofs.YtmdangoaomppdaaGreatDoor.Eng Go.Proofs.YtmdangoaomppdaaGreatDoor.Ty Go.Proofs.YtmdangoaomppdaaGreatDoor.Bits Go.Proofs.YtmdangoaomppdaaGreatDoor.Mem Go.Proofs.YtmdangoaomppdaaGreatDoor.Layout Go.Proofs.YtmdangoaomppdaaGreatDoor.GroupB Go.Proofs.YtmdangoaomppdaaGreatDoor.Group Go.Proofs.YtmdangoaomppdaaGreatDoor.TableB Go.Proofs.YtmdangoaomppdaaGreatDoor.TableI Go.Proofs.YtmdangoaomppdaaGreatDoor.CtrlB Go.Proofs.YtmdangoaomppdaaGreatDoor.Ctrl Go.Proofs.YtmdangoaomppdaaGreatDoor.Small Go.Proofs.YtmdangoaomppdaaGreatDoor.Table Go.Proofs.YtmdangoaomppdaaGreatDoor.Arena Go.Proofs.YtmdangoaomppdaaGreatDoor.Oracle Go.Proofs.YtmdangoaomppdaaGreatDoor.Ref03 Go.Proofs.YtmdangoaomppdaaGreatDoor.Ref11 Go.Proofs.YtmdangoaomppdaaGreatDoor.Cells Go.Proofs.YtmdangoaomppdaaGreatDoor.Refill Go.Proofs.YtmdangoaomppdaaGreatDoor.Bench

theorem promoted_ok (pb pa po bm off toff tgo : Nat) (l : Lay) (vf vo vt : Value) (sd : Int) (m : List (ByteArray × Value)) (G : HP) (hGT : TabOk G) (hGO : OddOk G) (hm : OverOk m) (hsd : 0 ≤ sd ∧ sd < 18446744073709551616) (hl : l.err = 0) (cs : Nat → Cell) (ad : Nat) (s : ArS) (U : Tb) (lives : List Life)
    (hok : ∀ i, i < 8 → (cs i).ok l) (hT : TabP s toff tgo l 2 1 U) (hR : RF (hashF m sd) cs 8 2 U lives (cnt isFull cs 8)) (hK : Keeps (newT 2 0) U) :
    FnOk Tryz.prog 25 #[.pointer (some ⟨pb, 0, none⟩), .agg #[.pointer (some ⟨pa, 0, none⟩), .int .i64 l.key, .int .i64 l.elem, .int .i64 l.ka, .int .i64 l.ea, .int .i64 l.cap, .int .i64 l.eo, .int .i64 l.bo, .int .i64 l.slot, .int .i64 l.group, .int .i64 ((toff : Nat) : Int)]] [pt pb (.cells (bsc pa po l off vf vo sd vt cs ad).toArray 69 (0, 0)), pt po (.cells #[.map (some bm)] 151 (0, 0)), mapH (fun k : ByteArray => Value.string k) bm m, G, arenaH pa s] (fun v L => v = .bool true ∧ L = [pt pb (.cells (bsc pa po l off vf vo sd vt cs ad).toArray 69 (0, 0)), pt po (.cells #[.map (some bm)] 151 (0, 0)), mapH (fun k : ByteArray => Value.string k) bm m, G, arenaH pa s]) := by
  have hN := layN hl
  have hbd := Lay.bnd hl
  obtain ⟨hu1, hu2, hu3, hu4⟩ := hR.counts
  have hc8 := cnt_le isFull cs 8
  have hpins : U.pins = 0 := hK.pins
  have hnext : U.next = 0 := hK.next
  have hkd : U.kind = 2 := hK.kind
  have hdep : U.depth = 0 := hK.depth
  refine fn_intro en25 Tryz.func25 rfl rfl rfl fun Fr w0 => t_nm ?_
  refine sr <| o_boxA rfl rfl fun b3 => asg rfl rfl <| lz <| asg rfl rfl <| lc <| t_seq <| sr <| mv rfl rfl <| l_q rfl (q_nilCheck rfl) <| l_q rfl (qfa 26 rfl yU69 rfl rfl yS67) <| l_q rfl (q_loadAgg rfl yA67 yS67 tk rfl bsc_cells) ?_
  refine mv rfl rfl <| lc <| t_block ?_
  refine t_loop (fun i : Nat => i ≤ 8) (fun i => [(0, .pointer (some ⟨pb, 0, none⟩)), (3, .pointer (some ⟨b3, 0, none⟩)), (5, .int .i64 (cnt isFull cs i : Nat)), (20, .agg (arr8 cs).toArray), (21, .int .i64 (i : Nat))]) (fun _ => pt b3 (.cells #[.pointer (some ⟨pa, 0, none⟩), .int .i64 l.key, .int .i64 l.elem, .int .i64 l.ka, .int .i64 l.ea, .int .i64 l.cap, .int .i64 l.eo, .int .i64 l.bo, .int .i64 l.slot, .int .i64 l.group, .int .i64 ((toff : Nat) : Int)] 32 (0, 0)) :: pt pb (.cells (bsc pa po l off vf vo sd vt cs ad).toArray 69 (0, 0)) :: pt po (.cells #[.map (some bm)] 151 (0, 0)) :: mapH (fun k : ByteArray => Value.string k) bm m :: G :: arenaH pa s :: Fr) (fun i => 8 - i) 0 (by decide) ⟨rfl, rfl, rfl, rfl, rfl, trivial⟩ (by (exact en)) ?_
  intro i hi
  have hcl := cnt_le isFull cs i
  have hcs := cnt_succ isFull cs i
  refine sr <| l_q rfl (qi rfl rfl (b_lss ·)) <| lc <| t_seq <| t_if rfl (fun h1 => ?_) fun h1 => ?_
  · skip
    have hi8 : i < 8 := by omega
    refine t_skip <| n_code <| t_seq <| t_block <| sr <| l_q rfl (q_indexArr rfl rfl Tryz.underlying67 yA66 yS66 (by omega) (arr8_part rfl hi8)) ?_
    refine o_allocA rfl yZ66 fun b7 => sta rfl rfl rfl yS66 rfl rfl ?_
    refine lc <| t_seq <| sr <| l_q rfl (qfa 0 rfl yU66 rfl rfl yS3) <| l_q rfl (qld rfl yA3) ?_
    refine l_q rfl (qi rfl rfl (b_neq ·)) <| lc <| t_if rfl (fun x => ?_) fun x => ?_
    · refine xt rfl <| n_code <| t_region <| l_q rfl (qadd rfl rfl) ?_
      refine mv rfl rfl <| l_nil ?_
      rw [if_neg (fun e => x (kind_full.2 e))] at hcs
      apply n_again ((i + 1))
      · exact (show i + 1 ≤ 8 by omega)
      · omega
      · exact ⟨rfl, rfl, by rw [hcs]; rfl, rfl, rfl, trivial⟩
      · exact en
    · skip
      have hkind : (cs i).kind = 2 := Classical.not_not.1 x
      have hfi := kind_full.1 hkind
      rw [if_pos hfi] at hcs
      have hcm := cnt_mono (p := isFull) (cs := cs) (show i + 1 ≤ 8 by omega)
      have hok1 := hok i hi8
      obtain ⟨t1, hc1⟩ := full_of hfi
      rw [hc1] at hok1
      obtain ⟨_, _, hks, hes, hb0, hb1⟩ := hok1
      have hhb := hashF_bnd hm sd (cs i).keyS
      refine t_skip <| nz <| mv rfl rfl <| l_q rfl (qadd rfl rfl) ?_
      refine asg rfl rfl <| lc <| t_seq <| t_draw mixed ?_
      apply dq 0 rfl
      · exact yq (q_move rfl)
      apply dq 1 rfl
      · exact yq (q_nilCheck rfl)
      apply dq 2 rfl
      · exact yq (qfa 10 rfl yU69 rfl rfl yS28)
      apply dq 3 rfl
      · exact yq (qld rfl yA28)
      apply dq 4 rfl
      · exact yq (q_move rfl)
      apply dq 5 rfl
      · exact yq (q_nilCheck rfl)
      apply dq 6 rfl
      · exact yq (qfa 22 rfl yU69 rfl rfl yS53)
      apply dq 7 rfl
      · exact yq (qfa 2 rfl yU53 rfl rfl yS22)
      apply dq 8 rfl
      · exact yq (qld rfl yA22)
      apply dq 9 rfl
      · exact yq (qfa 2 rfl yU66 rfl rfl yS9)
      apply dq 10 rfl
      · exact yq (qld rfl yA9)
      refine d_eff1 [3, 8, 10, 2, 7, 9, 1, 6, 0, 5, 4] [] 11 [(32, _), (37, _), (39, _)] gO ⟨rfl, rfl, rfl, trivial⟩ (by kernel_rfl) (by kernel_rfl) fun Ex => ?_
      refine lc1 rfl rfl rfl (Hash_ok G hGO po bm m hm sd hsd (cs i).keyS (by have := hN.k; omega)) ?_
      refine l_nil ?_
      apply n_d
      · exact trivial
      refine d_eff1 [] [] 12 [(40, _)] gO ⟨rfl, trivial⟩ (by kernel_rfl) (by kernel_rfl) fun Ex => ?_
      refine asg rfl rfl <| l_nil ?_
      apply n_d
      · exact trivial
      refine d_end (by kernel_rfl) ?_
      refine nz <| l_q rfl (qlda rfl yA32 yS32) ?_
      refine mv rfl rfl <| l_q rfl (qfa 2 rfl yU66 rfl rfl yS9) <| l_q rfl (qld rfl yA9) ?_
      refine lc1 rfl rfl rfl (TGet_ok G hGT pa toff tgo 2 1 s l U hT _ hhb (cs i).keyS hks) ?_
      rw [hR.get hi8 hfi (by omega)]
      refine mv rfl rfl <| l_q rfl (q_extractL rfl ga) ?_
      refine l_q rfl (q_extractL rfl ga) ?_
      refine o_allocA rfl yZ66 fun b9 => sta rfl rfl rfl yS66 rfl rfl ?_
      refine asg rfl rfl <| lz <| mv rfl rfl <| lc1 rfl rfl rfl (num11_ok _) ?_
      refine l_q rfl (qi rfl rfl (b_neq ·)) <| mv rfl rfl <| l_pt (t := 52) rfl (fun z => ?_) fun z => ?_
      · exact absurd rfl z
      · refine l_on rfl rfl <| l_q rfl (qlda rfl yA66 yS66) ?_
        refine l_on rfl rfl <| mv rfl rfl <| l_on rfl rfl <| l_q rfl (qrem rfl rfl) ?_
        refine l_on rfl rfl <| l_q rfl (qcv rfl yU22 yU3) ?_
        refine l_on rfl rfl <| l_q rfl (qfa 2 rfl yU66 rfl rfl yS9) <| l_on rfl rfl <| l_q rfl (qld rfl yA9) ?_
        refine l_on rfl rfl <| l_q rfl (qfa 3 rfl yU66 rfl rfl yS9) <| l_on rfl rfl <| l_q rfl (qld rfl yA9) ?_
        refine l_on rfl rfl <| l_q rfl (qfa 4 rfl yU66 rfl rfl yS3) <| l_on rfl rfl <| l_q rfl (qld rfl yA3) ?_
        refine l_on rfl rfl ?_
        apply l_q rfl
        · apply q_buildS rfl yP66 yZ66
          · apply FillR.one
            · repeat (first | exact PlAt.here | apply PlAt.there)
            · rfl
            · exact sa
            apply FillR.one
            · repeat (first | exact PlAt.here | apply PlAt.there)
            · rfl
            · exact sa
            apply FillR.one
            · repeat (first | exact PlAt.here | apply PlAt.there)
            · rfl
            · exact sa
            apply FillR.one
            · repeat (first | exact PlAt.here | apply PlAt.there)
            · rfl
            · exact sa
            apply FillR.one
            · repeat (first | exact PlAt.here | apply PlAt.there)
            · rfl
            · exact sa
            exact FillR.nil
        refine l_on rfl rfl <| l_q rfl (q_bin rfl rfl (g_flat · yG66) fun w => b_neqFlat w yU66 yH66 (by kernel_rfl) (by kernel_rfl)) ?_
        refine l_q rfl (q_pk rfl rfl) <| lc <| t_if rfl (fun y => ?_) fun y => ?_
        · simp [Cell.kind, Cell.tagI, Cell.keyS, Cell.elemS, Cell.birthI] at y
        · refine t_skip <| n_blk <| n_code <| t_region <| l_q rfl (qadd rfl rfl) ?_
          refine mv rfl rfl <| l_nil ?_
          apply n_again ((i + 1))
          · exact (show i + 1 ≤ 8 by omega)
          · omega
          · exact ⟨rfl, rfl, by rw [hcs]; rfl, rfl, rfl, trivial⟩
          · exact en
  · obtain rfl : i = 8 := by omega
    refine xt rfl <| nz <| asg rfl rfl <| lc <| t_seq <| sr <| asg rfl rfl <| lc <| t_block ?_
    refine t_loop (fun i : Nat => i ≤ 16) (fun i => [(3, .pointer (some ⟨b3, 0, none⟩)), (5, .int .i64 (cnt isFull cs 8 : Nat)), (11, .int .i64 (cnt isFull U.cells i : Nat)), (12, .int .i64 (i : Nat))]) (fun _ => pt b3 (.cells #[.pointer (some ⟨pa, 0, none⟩), .int .i64 l.key, .int .i64 l.elem, .int .i64 l.ka, .int .i64 l.ea, .int .i64 l.cap, .int .i64 l.eo, .int .i64 l.bo, .int .i64 l.slot, .int .i64 l.group, .int .i64 ((toff : Nat) : Int)] 32 (0, 0)) :: pt pb (.cells (bsc pa po l off vf vo sd vt cs ad).toArray 69 (0, 0)) :: pt po (.cells #[.map (some bm)] 151 (0, 0)) :: mapH (fun k : ByteArray => Value.string k) bm m :: G :: arenaH pa s :: Fr) (fun i => 16 - i) 0 (by decide) ⟨rfl, rfl, rfl, rfl, trivial⟩ (by (exact en)) ?_
    intro j hj
    have hcl2 := cnt_le isFull U.cells j
    have hcs2 := cnt_succ isFull U.cells j
    refine t_seq <| sr <| mv rfl rfl <| l_q rfl (qi rfl rfl (b_lss ·)) <| lc <| t_if rfl (fun h2 => ?_) fun h2 => ?_
    · skip
      have hj16 : j < 8 * 2 := by omega
      have hnd : ¬ (U.cells j).kind = 1 := fun e => by
        have := cnt_zero hu3 hj16
        cases hc : U.cells j with
        | deleted => rw [hc] at this; cases this
        | _ => rw [hc] at e; cases e
      refine t_skip <| n_code <| t_seq <| t_block <| sr <| l_q rfl (qlda rfl yA32 yS32) ?_
      refine mv rfl rfl <| lc1 rfl rfl rfl (Cell_okP pa toff tgo 2 1 s l U hT j hj16) ?_
      refine mv rfl rfl <| l_q rfl (q_extractL rfl ga) ?_
      refine l_q rfl (q_extractL rfl ga) ?_
      refine o_allocA rfl yZ66 fun b13 => sta rfl rfl rfl yS66 rfl rfl ?_
      refine asg rfl rfl <| lc <| t_seq <| sr <| mv rfl rfl <| lc1 rfl rfl rfl (num11_ok _) ?_
      refine l_q rfl (qi rfl rfl (b_neq ·)) <| mv rfl rfl <| l_pt (t := 80) rfl (fun z => ?_) fun z => ?_
      · exact absurd rfl z
      · refine l_on rfl rfl <| l_q rfl (qfa 0 rfl yU66 rfl rfl yS3) <| l_on rfl rfl <| l_q rfl (qld rfl yA3) ?_
        refine l_on rfl rfl <| l_q rfl (qi rfl rfl (b_eql ·)) <| l_q rfl (q_pk rfl rfl) <| lc <| t_if rfl (fun y => ?_) fun y => ?_
        · exact absurd y hnd
        · refine t_skip <| nz <| l_q rfl (qfa 0 rfl yU66 rfl rfl yS3) <| l_q rfl (qld rfl yA3) ?_
          refine l_q rfl (qi rfl rfl (b_eql ·)) <| lc <| t_if rfl (fun x => ?_) fun x => ?_
          · refine t_region <| mv rfl rfl <| l_q rfl (qadd rfl rfl) ?_
            refine asg rfl rfl <| l_nil <| n_blk <| n_code <| t_region <| mv rfl rfl <| l_q rfl (qadd rfl rfl) ?_
            refine asg rfl rfl <| l_nil ?_
            rw [if_pos (kind_full.1 x)] at hcs2
            apply n_again ((j + 1))
            · exact (show j + 1 ≤ 16 by omega)
            · omega
            · exact ⟨rfl, rfl, by rw [hcs2]; rfl, rfl, trivial⟩
            · exact en
          · refine t_skip <| n_blk <| n_code <| t_region <| mv rfl rfl <| l_q rfl (qadd rfl rfl) ?_
            refine asg rfl rfl <| l_nil ?_
            rw [if_neg (fun e => x (kind_full.2 e))] at hcs2
            apply n_again ((j + 1))
            · exact (show j + 1 ≤ 16 by omega)
            · omega
            · exact ⟨rfl, rfl, by rw [hcs2]; rfl, rfl, trivial⟩
            · exact en
    · obtain rfl : j = 16 := by omega
      refine xt rfl <| nz <| l_q rfl (qlda rfl yA32 yS32) ?_
      refine lc1 rfl rfl rfl (StatP_ok pa toff tgo 2 1 s l U hT) ?_
      rw [hu1, hu2, hpins, hnext, hkd, hdep, show decide ((2 : Int) = 4) = false from rfl, show cnt isFull U.cells 16 = cnt isFull cs 8 from hu4]
      refine mv rfl rfl <| l_q rfl (q_extractL rfl ga) ?_
      refine l_q rfl (q_extractL rfl ga) ?_
      refine o_allocA rfl yZ39 fun b15 => sta rfl rfl rfl yS39 rfl rfl ?_
      refine asg rfl rfl <| lz <| mv rfl rfl <| lc1 rfl rfl rfl (num11_ok _) ?_
      refine l_q rfl (qi rfl rfl (b_eql ·)) <| mv rfl rfl <| l_pt (t := 98) rfl (fun z => ?_) fun z => ?_
      · refine l_on rfl rfl <| mv rfl rfl <| l_on rfl rfl <| mv rfl rfl <| l_on rfl rfl <| l_q rfl (qi rfl rfl (b_eql ·)) <| l_q rfl (q_pk rfl rfl) <| mv rfl rfl <| l_pt (t := 103) rfl (fun y => ?_) fun y => ?_
        · refine l_on rfl rfl <| l_q rfl (qlda rfl yA39 yS39) ?_
          refine l_on rfl rfl <| mv rfl rfl <| l_on rfl rfl <| mv rfl rfl <| l_on rfl rfl <| l_q rfl (qsub rfl rfl) ?_
          refine l_on rfl rfl <| l_q rfl (qfa 7 rfl yU39 rfl rfl yS3) <| l_on rfl rfl <| l_q rfl (qld rfl yA3) ?_
          refine l_on rfl rfl ?_
          apply l_q rfl
          · apply q_buildS rfl yP39 yZ39
            · apply FillR.one
              · repeat (first | exact PlAt.here | apply PlAt.there)
              · rfl
              · exact sa
              apply FillR.one
              · repeat (first | exact PlAt.here | apply PlAt.there)
              · rfl
              · exact sa
              apply FillR.one
              · repeat (first | exact PlAt.here | apply PlAt.there)
              · rfl
              · exact sa
              apply FillR.one
              · repeat (first | exact PlAt.here | apply PlAt.there)
              · rfl
              · exact sa
              exact FillR.nil
          refine l_on rfl rfl <| l_q rfl (q_bin rfl rfl (g_flat · yG39) fun w => b_eqlFlat w yU39 yH39 (by kernel_rfl) (by kernel_rfl)) ?_
          refine l_q rfl (q_pk rfl rfl) <| asg rfl rfl <| lc <| rt <| fr1 rfl ([pt pb (.cells (bsc pa po l off vf vo sd vt cs ad).toArray 69 (0, 0)), pt po (.cells #[.map (some bm)] 151 (0, 0)), mapH (fun k : ByteArray => Value.string k) bm m, G, arenaH pa s]) (.tmp rfl) ?_
          exact ⟨by simp, rfl⟩
        · exact absurd rfl y
      · exact absurd rfl z
theorem SmallPromotes_ok (G : HP) (hGT : TabOk G) (hGO : OddOk G) (vf vo vt : Value) (sd : Int) (hsd : 0 ≤ sd ∧ sd < 18446744073709551616) (xs : List Int) (os : List (ByteArray × Int)) (ts : List (Int × Int × Int)) (hA : IntsAt G vf xs) (hO : OversAt G vo os) (hn0 : ∀ n c, vo = .slice none n c → c = 0 ∧ os = []) (how : ∀ o ∈ os, 0 ≤ o.2 ∧ o.2 < 18446744073709551616) (hT : TurnsAt G vt ts) (hmt : ts.length ≤ maxLen) (spare : Int) :
    FnOk Tryz.prog 4 #[.agg #[vf, vo, .int .u64 sd, vt], .int .i64 spare] [G] (fun v L => v = .bool true ∧ L = [G]) := by
  simp only [maxLen] at hmt
  obtain ⟨ta, tcap, rfl, hT0⟩ := hT
  refine fn_intro en4 Tryz.func4 rfl rfl rfl fun Fr w0 => t_nm ?_
  refine sr <| o_boxA rfl rfl fun b2 => asg rfl rfl <| lz <| l_q rfl (qfa 0 rfl yU53 rfl rfl yS49) <| l_q rfl (qld rfl yA49) ?_
  refine lcf rfl rfl rfl (Parse_ok G vf xs hA) ?_
  rintro v L' ⟨rfl, (⟨hpe, hle, rfl⟩ | ⟨hpe, rfl⟩)⟩
  refine l_nm ?_
  · have hbd := Lay.bnd hle
    have hc16 := fit16 hle
    have hcb := classI_bnd (n := 32 + (lay5 xs).group) (by omega)
    have hcb2 := classI_bnd (n := 2 * (lay5 xs).group) (by omega)
    have h64 : classI 64 = 64 := class64
    refine mv rfl rfl <| l_q rfl (q_extractL rfl ga) ?_
    refine l_q rfl (q_extractL rfl ga) ?_
    refine o_allocA rfl yZ30 fun b5 => sta rfl rfl rfl yS30 rfl rfl ?_
    refine asg rfl rfl <| lc <| t_seq <| sr <| mv rfl rfl <| l_q rfl (qi rfl rfl (b_neq ·)) <| lc <| t_if rfl (fun p0 => ?_) fun p0 => ?_
    · exact absurd rfl p0
    · refine t_skip <| n_code <| t_seq <| t_draw mixed ?_
      apply dq 1 rfl
      · exact yq (qfa 8 rfl yU30 rfl rfl yS3)
      apply dq 2 rfl
      · exact yq (qld rfl yA3)
      apply dq 3 rfl
      · exact yq (qmul rfl rfl)
      refine d_eff1 [] [3, 2, 1] 0 [] gO trivial (by kernel_rfl) (by kernel_rfl) fun Ex => ?_
      refine lc1 rfl rfl rfl (Class02_ok _) ?_
      refine l_nil ?_
      apply n_d
      · refine ⟨?_, ?_, ?_, trivial⟩
        · apply ya rfl rfl; exact yq (qmul rfl rfl)
        · apply ya rfl rfl; exact yq (qld rfl yA3)
        · apply ya rfl rfl; exact yq (qfa 8 rfl yU30 rfl rfl yS3)
      refine d_eff1 [3, 2, 1] [] 4 [(27, _)] gO ⟨rfl, trivial⟩ (by kernel_rfl) (by kernel_rfl) fun Ex => ?_
      refine lc1 rfl rfl rfl (Class02_ok _) ?_
      refine l_nil ?_
      apply n_d
      · exact trivial
      apply dq 5 rfl
      · exact yq (qadd rfl rfl)
      refine d_eff1 [5] [] 6 [(29, _)] gO ⟨rfl, trivial⟩ (by kernel_rfl) (by kernel_rfl) fun Ex => ?_
      refine asg rfl rfl <| l_nil ?_
      apply n_d
      · exact trivial
      refine d_end (by kernel_rfl) ?_
      refine nz <| l_q rfl (qfa 8 rfl yU30 rfl rfl yS3) <| l_q rfl (qld rfl yA3) ?_
      refine l_q rfl (qadd rfl rfl) ?_
      refine lc1 rfl rfl rfl (Class02_ok _) ?_
      refine asg rfl rfl <| lc <| t_seq <| sr <| mv rfl rfl <| l_q rfl (qi rfl rfl (b_lss ·)) <| mv rfl rfl <| l_pt (t := 36) rfl (fun p1 => ?_) fun p1 => ?_
      · exact l_off rfl rfl rfl rfl <| l_off rfl rfl rfl rfl <| l_q rfl (q_pk rfl rfl) <| lc <| t_cond_t rfl <| sr <| asg rfl rfl <| lc <| rt <| fr1 rfl ([G]) (.tmp rfl) ⟨rfl, rfl⟩
      · refine l_on rfl rfl <| mv rfl rfl <| l_on rfl rfl <| l_q rfl (qi rfl rfl (b_gtr ·)) <| l_q rfl (q_pk rfl rfl) <| lc <| t_if rfl (fun p2 => ?_) fun p2 => ?_
        · exact sr <| asg rfl rfl <| lc <| rt <| fr1 rfl ([G]) (.tmp rfl) ⟨rfl, rfl⟩
        · refine t_skip <| nz <| l_q rfl (qlda rfl yA53 yS53) ?_
          refine mv rfl rfl <| mv rfl rfl <| l_q rfl (qadd rfl rfl) ?_
          refine lcf rfl rfl rfl (bench_ok G vf vo _ sd xs os hA hO hn0 (classI (32 + (lay5 xs).group) + spare) (by omega) (fun hl => by omega)) ?_
          rintro v L' (⟨rfl, rfl⟩ | ⟨pa, pb, po, bm, off, l, s0, m, hleq, hl, hgo, hm0, rfl, rfl, hP0, hsl0, hsv0⟩)
          refine l_nm ?_
          · skip
            refine l_nm ?_
            refine mv rfl rfl <| l_q rfl (q_extractL rfl ga) ?_
            refine l_q rfl (q_extractL rfl ga) ?_
            refine l_q rfl (q_extractL rfl ga) ?_
            refine asg rfl rfl <| asg rfl rfl <| asg rfl rfl <| lc <| t_seq <| sr <| mv rfl rfl <| l_q rfl (q_un rfl (u_not ·)) <| lc <| t_if rfl (fun p3 => ?_) fun p3 => ?_
            · exact sr <| asg rfl rfl <| lc <| rt <| fr1 rfl ([G]) (.tmp rfl) ⟨rfl, rfl⟩
            · cases p3
          · have hm : OverOk m := by rw [hm0]; exact mapO_ok how
            have hS0 : SB (tgF m sd) newS := SB.new
            rw [← hleq] at hsl0
            have hN := layN hl
            have h2g : classI ((2 * gN l : Nat) : Int) = classI (2 * (lay5 xs).group) := by rw [← hleq]; congr 1; have := hN.g; omega
            have h3g : classI (32 + l.group) = classI (32 + (lay5 xs).group) := by rw [hleq]
            refine l_nm ?_
            refine mv rfl rfl <| l_q rfl (q_extractL rfl ga) ?_
            refine l_q rfl (q_extractL rfl ga) ?_
            refine l_q rfl (q_extractL rfl ga) ?_
            refine asg rfl rfl <| asg rfl rfl <| asg rfl rfl <| lc <| t_seq <| sr <| mv rfl rfl <| l_q rfl (q_un rfl (u_not ·)) <| lc <| t_if rfl (fun p3 => ?_) fun p3 => ?_
            · cases p3
            · refine t_skip <| n_code <| t_seq <| sr <| mv rfl rfl <| l_q rfl (q_un rfl (u_not ·)) <| lc <| t_if rfl (fun p4 => ?_) fun p4 => ?_
              · cases p4
              · refine t_skip <| n_code <| t_seq <| sr <| l_q rfl (qfa 3 rfl yU53 rfl rfl yS51) <| l_q rfl (qld rfl yA51) ?_
                refine l_q rfl (ql rfl yU51) <| mv rfl rfl <| lc <| t_block ?_
                refine t_loop (fun x : Nat × ArS × Sm × Nat => x.1 ≤ ts.length ∧ SmP x.2.1 off l x.2.2.1 ∧ SB (tgF m sd) x.2.2.1 ∧ x.2.2.2 ≤ x.1 ∧ x.2.1.limit = classI (32 + l.group) + spare ∧ x.2.1.live = classI (32 + l.group)) (fun x => [(1, .int .i64 spare), (2, .pointer (some ⟨b2, 0, none⟩)), (7, .int .i64 (classI 64 + classI (2 * (lay5 xs).group))), (8, .int .i64 (classI (32 + (lay5 xs).group))), (9, .pointer (some ⟨pb, 0, none⟩)), (54, .slice ta ts.length tcap), (55, .int .i64 (ts.length : Nat)), (56, .int .i64 (x.1 : Nat))]) (fun x => pt b2 (.cells #[vf, vo, .int .u64 sd, .slice ta ts.length tcap] 53 (0, 0)) :: pt pb (.cells (bsc pa po l off vf vo sd (.slice ta ts.length tcap) x.2.2.1.cells x.2.2.2).toArray 69 (0, 0)) :: pt po (.cells #[.map (some bm)] 151 (0, 0)) :: mapH (fun k : ByteArray => Value.string k) bm m :: G :: arenaH pa x.2.1 :: Fr) (fun x => ts.length - x.1) (0, s0, newS, 0) ⟨Nat.zero_le _, hP0, hS0, Nat.le_refl _, hsl0, hsv0⟩ ⟨rfl, rfl, rfl, rfl, rfl, rfl, rfl, rfl, trivial⟩ (by (exact en)) ?_
                rintro ⟨i, s, S, ad⟩ ⟨hi, hP, hS, had, hsl, hsv⟩
                dsimp only at hi hP hS had hsl hsv ⊢
                refine sr <| l_q rfl (qi rfl rfl (b_lss ·)) <| lc <| t_seq <| t_if rfl (fun g1 => ?_) fun g1 => ?_
                · skip
                  obtain ⟨tb, to, rfl, hT1⟩ := hT0 (by omega)
                  obtain ⟨t, ht⟩ : ∃ t, ts[i]? = some t := ⟨ts[i], List.getElem?_eq_getElem (by omega)⟩
                  have hcell := cell_turn hT1 ht
                  refine t_skip <| n_code <| t_seq <| t_block <| sr <| l_q rfl (q_indexAddr rfl rfl yU51 yS61 (by omega)) ?_
                  apply l_q rfl
                  · apply q_loadRA (A := G) (us := [.int .i64 t.1, .int .i64 t.2.1, .int .i64 t.2.2]) rfl yA61 yS61 rfl
                    · exact tk
                    · exact hcell
                  refine o_allocA rfl yZ61 fun b13 => sta rfl rfl rfl yS61 rfl rfl ?_
                  refine lz <| mv rfl rfl <| l_q rfl (qlda rfl yA61 yS61) ?_
                  refine lcf rfl rfl rfl (turn_ok pb pa po bm off l vf vo _ sd m G hGT hGO hm hsd hl S ad s hP hS (by omega) t.1 t.2.1 t.2.2) ?_
                  rintro v L' ⟨s', S', ad', rfl, rfl, hP', hS', had', _, hLy⟩
                  refine l_nm ?_
                  refine l_q rfl (q_un rfl (u_not ·)) <| lc <| t_if rfl (fun g2 => ?_) fun g2 => ?_
                  · cases g2
                  · refine t_skip <| n_blk <| n_code <| t_region <| l_q rfl (qadd rfl rfl) ?_
                    refine mv rfl rfl <| l_nil ?_
                    apply n_again ((i + 1, s', S', ad'))
                    · exact ⟨by dsimp only; omega, hP', hS', by dsimp only; omega, hLy.limit.trans hsl, hLy.live.trans hsv⟩
                    · dsimp only; omega
                    · exact ⟨rfl, rfl, rfl, rfl, rfl, rfl, rfl, rfl, trivial⟩
                    · exact en
                · rw [← h3g]
                  refine xt rfl <| n_code <| t_seq <| t_draw mixed ?_
                  apply dq 0 rfl
                  · exact yq (q_move rfl)
                  apply dq 1 rfl
                  · exact yq (q_nilCheck rfl)
                  apply dq 2 rfl
                  · exact yq (qfa 11 rfl yU69 rfl rfl yS64)
                  apply dq 3 rfl
                  · exact yq (qlda rfl yA64 yS64)
                  apply dq 4 rfl
                  · exact yq (q_move rfl)
                  apply dq 5 rfl
                  · exact yq (q_nilCheck rfl)
                  apply dq 6 rfl
                  · exact yq (qfa 10 rfl yU69 rfl rfl yS28)
                  apply dq 7 rfl
                  · exact yq (qld rfl yA28)
                  apply dq 8 rfl
                  · exact yq (qfa 2 rfl yU53 rfl rfl yS22)
                  apply dq 9 rfl
                  · exact yq (qld rfl yA22)
                  apply d_eff2 10 14
                  · kernel_rfl
                  · apply effAt (q1 := [3, 7, 9, 2, 6, 8, 1, 5, 0, 4]) (q2 := []) [(69, _), (73, _), (75, _)]
                    · exact gO
                    · exact ⟨rfl, rfl, rfl, trivial⟩
                    · kernel_rfl
                    intro Ex
                    refine lcf rfl rfl rfl (Promote_ok G hGT hGO pa po bm off s l S m hm sd hsd hP hS.uniq) ?_
                    rintro v L' hres
                    refine l_nm ?_
                    rw [h2g] at hres
                    rcases hres with ⟨hb, rfl, rfl⟩ | ⟨hfit, s2, U, lives, rfl, rfl, hT2, hR2, hP2, hl2, hv2, hK2⟩
                    · skip
                      refine l_nm ?_
                      refine l_nil ?_
                      apply n_d
                      · exact trivial
                      apply dq 11 rfl
                      · exact yq (q_move rfl)
                      apply dq 12 rfl
                      · exact yq (q_extractL rfl ga)
                      apply dq 13 rfl
                      · exact yq (q_extractL rfl ga)
                      refine d_eff1 [] [13, 12, 11] 14 [] gO trivial (by kernel_rfl) (by kernel_rfl) fun Ex => ?_
                      refine o_allocA rfl yZ32 fun b14 => l_nil ?_
                      apply n_d
                      · refine ⟨?_, ?_, ?_, trivial⟩
                        · apply ya rfl rfl; exact yq (q_extractL rfl ga)
                        · apply ya rfl rfl; exact yq (q_extractL rfl ga)
                        · apply ya rfl rfl; exact yq (q_move rfl)
                      refine d_eff1 [12, 11] [13] 15 [(14, _), (77, _)] gO ⟨rfl, rfl, trivial⟩ (by kernel_rfl) (by kernel_rfl) fun Ex => ?_
                      refine sta rfl rfl rfl yS32 rfl rfl ?_
                      refine l_nil ?_
                      apply n_d
                      · refine ⟨?_, trivial⟩
                        · apply ya rfl rfl; exact yq (q_extractL rfl ga)
                      refine d_eff1 [13] [] 16 [(78, _)] gO ⟨rfl, trivial⟩ (by kernel_rfl) (by kernel_rfl) fun Ex => ?_
                      refine asg rfl rfl <| l_nil ?_
                      apply n_d
                      · exact trivial
                      refine d_end (by kernel_rfl) ?_
                      refine n_code <| t_seq <| sr <| mv rfl rfl <| mv rfl rfl <| l_q rfl (qi rfl rfl (b_lss ·)) <| lc <| t_if rfl (fun y1 => ?_) fun y1 => ?_
                      · refine sr <| mv rfl rfl <| lc1 rfl rfl rfl (num11_ok _) ?_
                        refine l_q rfl (qi rfl rfl (b_eql ·)) <| mv rfl rfl <| l_pt (t := 85) rfl (fun y2 => ?_) fun y2 => ?_
                        · refine l_on rfl rfl <| mv rfl rfl <| l_on rfl rfl <| l_q rfl (q_nilCheck rfl) <| l_on rfl rfl <| l_q rfl (qfa 0 rfl yU69 rfl rfl yS27) <| l_on rfl rfl <| l_q rfl (qld rfl yA27) ?_
                          refine l_on rfl rfl <| lc1 rfl rfl rfl (Live_ok pa s) ?_
                          refine l_on rfl rfl <| mv rfl rfl <| l_on rfl rfl <| l_q rfl (qi rfl rfl (b_eql ·)) <| l_q rfl (q_pk rfl rfl) <| mv rfl rfl <| l_pt (t := 94) rfl (fun y3 => ?_) fun y3 => ?_
                          · refine l_on rfl rfl <| mv rfl rfl <| l_on rfl rfl <| lc1 rfl rfl rfl (holds_ok pb pa po off l vf vo _ sd m S ad s hP hS) ?_
                            exact l_q rfl (q_pk rfl rfl) <| asg rfl rfl <| lc <| rt <| fr1 rfl ([G]) (.tmp rfl) ⟨rfl, rfl⟩
                          · exact absurd hsv y3
                        · exact absurd rfl y2
                      · omega
                    · skip
                      refine l_nm ?_
                      refine l_nil ?_
                      apply n_d
                      · exact trivial
                      apply dq 11 rfl
                      · exact yq (q_move rfl)
                      apply dq 12 rfl
                      · exact yq (q_extractL rfl ga)
                      apply dq 13 rfl
                      · exact yq (q_extractL rfl ga)
                      refine d_eff1 [] [13, 12, 11] 14 [] gO trivial (by kernel_rfl) (by kernel_rfl) fun Ex => ?_
                      refine o_allocA rfl yZ32 fun b14 => l_nil ?_
                      apply n_d
                      · refine ⟨?_, ?_, ?_, trivial⟩
                        · apply ya rfl rfl; exact yq (q_extractL rfl ga)
                        · apply ya rfl rfl; exact yq (q_extractL rfl ga)
                        · apply ya rfl rfl; exact yq (q_move rfl)
                      refine d_eff1 [12, 11] [13] 15 [(14, _), (77, _)] gO ⟨rfl, rfl, trivial⟩ (by kernel_rfl) (by kernel_rfl) fun Ex => ?_
                      refine sta rfl rfl rfl yS32 rfl rfl ?_
                      refine l_nil ?_
                      apply n_d
                      · refine ⟨?_, trivial⟩
                        · apply ya rfl rfl; exact yq (q_extractL rfl ga)
                      refine d_eff1 [13] [] 16 [(78, _)] gO ⟨rfl, trivial⟩ (by kernel_rfl) (by kernel_rfl) fun Ex => ?_
                      refine asg rfl rfl <| l_nil ?_
                      apply n_d
                      · exact trivial
                      refine d_end (by kernel_rfl) ?_
                      refine n_code <| t_seq <| sr <| mv rfl rfl <| mv rfl rfl <| l_q rfl (qi rfl rfl (b_lss ·)) <| lc <| t_if rfl (fun y1 => ?_) fun y1 => ?_
                      · omega
                      · refine t_skip <| n_code <| t_seq <| sr <| mv rfl rfl <| lc1 rfl rfl rfl (num11_ok _) ?_
                        refine l_q rfl (qi rfl rfl (b_neq ·)) <| mv rfl rfl <| l_pt (t := 101) rfl (fun y2 => ?_) fun y2 => ?_
                        · exact absurd rfl y2
                        · refine l_on rfl rfl <| mv rfl rfl <| l_on rfl rfl <| l_q rfl (q_nilCheck rfl) <| l_on rfl rfl <| l_q rfl (qfa 0 rfl yU69 rfl rfl yS27) <| l_on rfl rfl <| l_q rfl (qld rfl yA27) ?_
                          refine l_on rfl rfl <| lc1 rfl rfl rfl (Live_ok pa s2) ?_
                          refine l_on rfl rfl <| mv rfl rfl <| l_on rfl rfl <| mv rfl rfl <| l_on rfl rfl <| l_q rfl (qadd rfl rfl) ?_
                          refine l_on rfl rfl <| l_q rfl (qi rfl rfl (b_neq ·)) <| l_q rfl (q_pk rfl rfl) <| mv rfl rfl <| l_pt (t := 112) rfl (fun y3 => ?_) fun y3 => ?_
                          · omega
                          · refine l_on rfl rfl <| mv rfl rfl <| l_on rfl rfl <| lc1 rfl rfl rfl (holds_ok pb pa po off l vf vo _ sd m S ad s2 hP2 hS) ?_
                            refine l_on rfl rfl <| l_q rfl (q_un rfl (u_not ·)) <| l_q rfl (q_pk rfl rfl) <| lc <| t_if rfl (fun y4 => ?_) fun y4 => ?_
                            · cases y4
                            · refine t_skip <| nz <| mv rfl rfl <| l_q rfl (qlda rfl yA32 yS32) ?_
                              refine lc1 rfl rfl rfl (promoted_ok pb pa po bm off s.stop (s.stop + 64) l vf vo _ sd m G hGT hGO hm hsd hl S.cells ad s2 U lives hP.okc hT2 hR2 hK2) ?_
                              exact asg rfl rfl <| lc <| rt <| fr1 rfl ([G]) (.tmp rfl) ⟨rfl, rfl⟩
                  · apply effAt (q1 := []) (q2 := [9, 8, 7, 6, 5, 4, 3, 2, 1, 0]) []
                    · exact gO
                    · exact trivial
                    · kernel_rfl
                    intro Ex
                    refine o_allocA rfl yZ32 fun b14 => l_nil ?_
                    apply n_d
                    · refine ⟨?_, ?_, ?_, ?_, ?_, ?_, ?_, ?_, ?_, ?_, trivial⟩
                      · apply ya rfl rfl; exact yq (qld rfl yA22)
                      · apply ya rfl rfl; exact yq (qfa 2 rfl yU53 rfl rfl yS22)
                      · apply ya rfl rfl; exact yq (qld rfl yA28)
                      · apply ya rfl rfl; exact yq (qfa 10 rfl yU69 rfl rfl yS28)
                      · apply ya rfl rfl; exact yq (q_nilCheck rfl)
                      · apply ya rfl rfl; exact yq (q_move rfl)
                      · apply ya rfl rfl; exact yq (qlda rfl yA64 yS64)
                      · apply ya rfl rfl; exact yq (qfa 11 rfl yU69 rfl rfl yS64)
                      · apply ya rfl rfl; exact yq (q_nilCheck rfl)
                      · apply ya rfl rfl; exact yq (q_move rfl)
                    refine d_eff1 [3, 7, 9, 2, 6, 8, 1, 5, 0, 4] [] 10 [(69, _), (73, _), (75, _)] gO ⟨rfl, rfl, rfl, trivial⟩ (by kernel_rfl) (by kernel_rfl) fun Ex => ?_
                    refine lcf rfl rfl rfl (Promote_ok G hGT hGO pa po bm off s l S m hm sd hsd hP hS.uniq) ?_
                    rintro v L' hres
                    refine l_nm ?_
                    rw [h2g] at hres
                    rcases hres with ⟨hb, rfl, rfl⟩ | ⟨hfit, s2, U, lives, rfl, rfl, hT2, hR2, hP2, hl2, hv2, hK2⟩
                    · skip
                      refine l_nm ?_
                      refine l_nil ?_
                      apply n_d
                      · exact trivial
                      apply dq 11 rfl
                      · exact yq (q_move rfl)
                      apply dq 12 rfl
                      · exact yq (q_extractL rfl ga)
                      apply dq 13 rfl
                      · exact yq (q_extractL rfl ga)
                      refine d_eff1 [12, 11] [13] 15 [(14, _), (77, _)] gO ⟨rfl, rfl, trivial⟩ (by kernel_rfl) (by kernel_rfl) fun Ex => ?_
                      refine sta rfl rfl rfl yS32 rfl rfl ?_
                      refine l_nil ?_
                      apply n_d
                      · refine ⟨?_, trivial⟩
                        · apply ya rfl rfl; exact yq (q_extractL rfl ga)
                      refine d_eff1 [13] [] 16 [(78, _)] gO ⟨rfl, trivial⟩ (by kernel_rfl) (by kernel_rfl) fun Ex => ?_
                      refine asg rfl rfl <| l_nil ?_
                      apply n_d
                      · exact trivial
                      refine d_end (by kernel_rfl) ?_
                      refine n_code <| t_seq <| sr <| mv rfl rfl <| mv rfl rfl <| l_q rfl (qi rfl rfl (b_lss ·)) <| lc <| t_if rfl (fun y1 => ?_) fun y1 => ?_
                      · refine sr <| mv rfl rfl <| lc1 rfl rfl rfl (num11_ok _) ?_
                        refine l_q rfl (qi rfl rfl (b_eql ·)) <| mv rfl rfl <| l_pt (t := 85) rfl (fun y2 => ?_) fun y2 => ?_
                        · refine l_on rfl rfl <| mv rfl rfl <| l_on rfl rfl <| l_q rfl (q_nilCheck rfl) <| l_on rfl rfl <| l_q rfl (qfa 0 rfl yU69 rfl rfl yS27) <| l_on rfl rfl <| l_q rfl (qld rfl yA27) ?_
                          refine l_on rfl rfl <| lc1 rfl rfl rfl (Live_ok pa s) ?_
                          refine l_on rfl rfl <| mv rfl rfl <| l_on rfl rfl <| l_q rfl (qi rfl rfl (b_eql ·)) <| l_q rfl (q_pk rfl rfl) <| mv rfl rfl <| l_pt (t := 94) rfl (fun y3 => ?_) fun y3 => ?_
                          · refine l_on rfl rfl <| mv rfl rfl <| l_on rfl rfl <| lc1 rfl rfl rfl (holds_ok pb pa po off l vf vo _ sd m S ad s hP hS) ?_
                            exact l_q rfl (q_pk rfl rfl) <| asg rfl rfl <| lc <| rt <| fr1 rfl ([G]) (.tmp rfl) ⟨rfl, rfl⟩
                          · exact absurd hsv y3
                        · exact absurd rfl y2
                      · omega
                    · skip
                      refine l_nm ?_
                      refine l_nil ?_
                      apply n_d
                      · exact trivial
                      apply dq 11 rfl
                      · exact yq (q_move rfl)
                      apply dq 12 rfl
                      · exact yq (q_extractL rfl ga)
                      apply dq 13 rfl
                      · exact yq (q_extractL rfl ga)
                      refine d_eff1 [12, 11] [13] 15 [(14, _), (77, _)] gO ⟨rfl, rfl, trivial⟩ (by kernel_rfl) (by kernel_rfl) fun Ex => ?_
                      refine sta rfl rfl rfl yS32 rfl rfl ?_
                      refine l_nil ?_
                      apply n_d
                      · refine ⟨?_, trivial⟩
                        · apply ya rfl rfl; exact yq (q_extractL rfl ga)
                      refine d_eff1 [13] [] 16 [(78, _)] gO ⟨rfl, trivial⟩ (by kernel_rfl) (by kernel_rfl) fun Ex => ?_
                      refine asg rfl rfl <| l_nil ?_
                      apply n_d
                      · exact trivial
                      refine d_end (by kernel_rfl) ?_
                      refine n_code <| t_seq <| sr <| mv rfl rfl <| mv rfl rfl <| l_q rfl (qi rfl rfl (b_lss ·)) <| lc <| t_if rfl (fun y1 => ?_) fun y1 => ?_
                      · omega
                      · refine t_skip <| n_code <| t_seq <| sr <| mv rfl rfl <| lc1 rfl rfl rfl (num11_ok _) ?_
                        refine l_q rfl (qi rfl rfl (b_neq ·)) <| mv rfl rfl <| l_pt (t := 101) rfl (fun y2 => ?_) fun y2 => ?_
                        · exact absurd rfl y2
                        · refine l_on rfl rfl <| mv rfl rfl <| l_on rfl rfl <| l_q rfl (q_nilCheck rfl) <| l_on rfl rfl <| l_q rfl (qfa 0 rfl yU69 rfl rfl yS27) <| l_on rfl rfl <| l_q rfl (qld rfl yA27) ?_
                          refine l_on rfl rfl <| lc1 rfl rfl rfl (Live_ok pa s2) ?_
                          refine l_on rfl rfl <| mv rfl rfl <| l_on rfl rfl <| mv rfl rfl <| l_on rfl rfl <| l_q rfl (qadd rfl rfl) ?_
                          refine l_on rfl rfl <| l_q rfl (qi rfl rfl (b_neq ·)) <| l_q rfl (q_pk rfl rfl) <| mv rfl rfl <| l_pt (t := 112) rfl (fun y3 => ?_) fun y3 => ?_
                          · omega
                          · refine l_on rfl rfl <| mv rfl rfl <| l_on rfl rfl <| lc1 rfl rfl rfl (holds_ok pb pa po off l vf vo _ sd m S ad s2 hP2 hS) ?_
                            refine l_on rfl rfl <| l_q rfl (q_un rfl (u_not ·)) <| l_q rfl (q_pk rfl rfl) <| lc <| t_if rfl (fun y4 => ?_) fun y4 => ?_
                            · cases y4
                            · refine t_skip <| nz <| mv rfl rfl <| l_q rfl (qlda rfl yA32 yS32) ?_
                              refine lc1 rfl rfl rfl (promoted_ok pb pa po bm off s.stop (s.stop + 64) l vf vo _ sd m G hGT hGO hm hsd hl S.cells ad s2 U lives hP.okc hT2 hR2 hK2) ?_
                              exact asg rfl rfl <| lc <| rt <| fr1 rfl ([G]) (.tmp rfl) ⟨rfl, rfl⟩
  · skip
    refine l_nm ?_
    refine mv rfl rfl <| l_q rfl (q_extractL rfl ga) ?_
    refine l_q rfl (q_extractL rfl ga) ?_
    refine o_allocA rfl yZ30 fun b5 => sta rfl rfl rfl yS30 rfl rfl ?_
    refine asg rfl rfl <| lc <| t_seq <| sr <| mv rfl rfl <| l_q rfl (qi rfl rfl (b_neq ·)) <| lc <| t_if rfl (fun p0 => ?_) fun p0 => ?_
    · exact sr <| asg rfl rfl <| lc <| rt <| fr1 rfl ([G]) (.tmp rfl) ⟨rfl, rfl⟩
    · exact absurd hpe p0
end Go.Proofs.YtmdangoaomppdaaGreatDoor.BenchS
