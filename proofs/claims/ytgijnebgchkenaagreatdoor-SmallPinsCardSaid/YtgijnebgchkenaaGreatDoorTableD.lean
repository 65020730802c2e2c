/- A dead table's answers; table.Free. -/
import Derived.Test.YtgijnebgchkenaaGreatDoorTableW
import Derived.Test.YtgijnebgchkenaaGreatDoorTableG
import Derived.Test.YtgijnebgchkenaaGreatDoorArenaF
set_option linter.unusedVariables false
set_option linter.unusedSimpArgs false
set_option maxRecDepth 100000
namespace Go.Proofs.YtgijnebgchkenaaGreatDoor.Table
open Go.RowKit Go.Proofs Go.Proofs.YtgijnebgchkenaaGreatDoor.Eng Go.Proofs.YtgijnebgchkenaaGreatDoor.Ty Go.Proofs.YtgijnebgchkenaaGreatDoor.Bits Go.Proofs.YtgijnebgchkenaaGreatDoor.Mem Go.Proofs.YtgijnebgchkenaaGreatDoor.Search Go.Proofs.YtgijnebgchkenaaGreatDoor.Arena Go.Proofs.YtgijnebgchkenaaGreatDoor.CtrlB Go.Proofs.YtgijnebgchkenaaGreatDoor.Ctrl Go.Proofs.YtgijnebgchkenaaGreatDoor.Layout Go.Proofs.YtgijnebgchkenaaGreatDoor.GroupB Go.Proofs.YtgijnebgchkenaaGreatDoor.Group Go.Proofs.YtgijnebgchkenaaGreatDoor.TableB

theorem word_dead (pa : Nat) (s : ArS) (off : Int) (k : Nat) (hk : wid k) (hg : ¬ goodP s off k) (hne : s.all ≠ []) : FnOk Tryz.prog 100 #[.pointer (some ⟨pa, 0, none⟩), .int .i64 off, .int .i64 k] [arenaH pa s]
    (fun v L => v = .int .i64 24 ∧ L = [arenaH pa s]) := by
  refine fn_intro en100 Tryz.func100 rfl rfl rfl fun Fr w0 => t_nm ?_
  refine sr <| asg rfl rfl <| lc <| t_seq <| sr <| mv rfl rfl <| lc <| t_block <| t_seq <| sr <| l_q rfl (qi rfl rfl (b_eql ·)) <| asg rfl rfl <| lc <| t_pt (t := 8) rfl (fun h1 => ?_) fun h1 => ?_
  · refine t_cond_t rfl <| t_skip <| n_code <| t_cond_t rfl <| t_skip <| n_blk <| n_code <| t_seq <| sr <| mv rfl rfl <| mv rfl rfl <| mv rfl rfl <| lcf rfl rfl rfl (good_ok pa s hne off k) ?_
    rintro v L' ⟨⟨b, rfl, hb⟩, rfl⟩
    refine l_nm ?_
    refine l_q rfl (q_un rfl (u_not ·)) <| lc <| t_if rfl (fun z => ?_) fun z => ?_
    · exact sr <| asg rfl rfl <| lc <| rt <| fr1 rfl ([arenaH pa s]) (.tmp rfl) ⟨rfl, rfl⟩
    · exact absurd (hb.1 (by simpa using z)) hg
  · refine t_cond_f rfl <| sr <| l_q rfl (qi rfl rfl (b_eql ·)) <| asg rfl rfl <| lc <| t_pt (t := 8) rfl (fun h2 => ?_) fun h2 => ?_
    · refine t_cond_t rfl <| t_skip <| n_code <| t_cond_t rfl <| t_skip <| n_blk <| n_code <| t_seq <| sr <| mv rfl rfl <| mv rfl rfl <| mv rfl rfl <| lcf rfl rfl rfl (good_ok pa s hne off k) ?_
      rintro v L' ⟨⟨b, rfl, hb⟩, rfl⟩
      refine l_nm ?_
      refine l_q rfl (q_un rfl (u_not ·)) <| lc <| t_if rfl (fun z => ?_) fun z => ?_
      · exact sr <| asg rfl rfl <| lc <| rt <| fr1 rfl ([arenaH pa s]) (.tmp rfl) ⟨rfl, rfl⟩
      · exact absurd (hb.1 (by simpa using z)) hg
    · refine t_cond_f rfl <| sr <| l_q rfl (qi rfl rfl (b_eql ·)) <| asg rfl rfl <| lc <| t_pt (t := 8) rfl (fun h4 => ?_) fun h4 => ?_
      · refine t_cond_t rfl <| t_skip <| n_code <| t_cond_t rfl <| t_skip <| n_blk <| n_code <| t_seq <| sr <| mv rfl rfl <| mv rfl rfl <| mv rfl rfl <| lcf rfl rfl rfl (good_ok pa s hne off k) ?_
        rintro v L' ⟨⟨b, rfl, hb⟩, rfl⟩
        refine l_nm ?_
        refine l_q rfl (q_un rfl (u_not ·)) <| lc <| t_if rfl (fun z => ?_) fun z => ?_
        · exact sr <| asg rfl rfl <| lc <| rt <| fr1 rfl ([arenaH pa s]) (.tmp rfl) ⟨rfl, rfl⟩
        · exact absurd (hb.1 (by simpa using z)) hg
      · refine t_cond_f rfl <| t_region <| l_q rfl (qi rfl rfl (b_eql ·)) <| asg rfl rfl <| lc <| t_pt (t := 8) rfl (fun h8 => ?_) fun h8 => ?_
        · refine t_cond_t rfl <| t_skip <| n_blk <| n_code <| t_seq <| sr <| mv rfl rfl <| mv rfl rfl <| mv rfl rfl <| lcf rfl rfl rfl (good_ok pa s hne off k) ?_
          rintro v L' ⟨⟨b, rfl, hb⟩, rfl⟩
          refine l_nm ?_
          refine l_q rfl (q_un rfl (u_not ·)) <| lc <| t_if rfl (fun z => ?_) fun z => ?_
          · exact sr <| asg rfl rfl <| lc <| rt <| fr1 rfl ([arenaH pa s]) (.tmp rfl) ⟨rfl, rfl⟩
          · exact absurd (hb.1 (by simpa using z)) hg
        · unfold wid at hk; omega
theorem Load_dead (pa : Nat) (s : ArS) (off : Int) (k : Nat) (hk : wid k) (hg : ¬ goodP s off k) (hne : s.all ≠ []) : FnOk Tryz.prog 46 #[.pointer (some ⟨pa, 0, none⟩), .int .i64 off, .int .i64 k] [arenaH pa s]
    (fun v L => v = .tuple #[.int .u64 0, .int .i64 24] ∧ L = [arenaH pa s]) := by
  refine fn_intro en46 Tryz.func46 rfl rfl rfl fun Fr w0 => t_nm ?_
  refine sr <| asg rfl rfl <| asg rfl rfl <| lc <| t_seq <| sr <| mv rfl rfl <| mv rfl rfl <| mv rfl rfl <| lc1 rfl rfl rfl (word_dead pa s off k hk hg hne) ?_
  refine asg rfl rfl <| lz <| mv rfl rfl <| l_q rfl (qi rfl rfl (b_neq ·)) <| lc <| t_if rfl (fun z => ?_) fun z => ?_
  · exact sr <| mv rfl rfl <| asg rfl rfl <| asg rfl rfl <| lc <| rt <| fr2 rfl ([arenaH pa s]) (.tmp rfl) (.tmp rfl) ⟨rfl, rfl⟩
  · exact absurd z (by decide)
section
variable (pa : Nat) (off : Nat) (s : ArS) (l : Lay) (hg : ¬ goodP s (off : Nat) 8) (hne : s.all ≠ []) (ho : off ≤ 1000000000)
include hg hne ho
theorem Stat_dead : FnOk Tryz.prog 15 #[.agg #[.pointer (some ⟨pa, 0, none⟩), .int .i64 l.key, .int .i64 l.elem, .int .i64 l.ka, .int .i64 l.ea, .int .i64 l.cap, .int .i64 l.eo, .int .i64 l.bo, .int .i64 l.slot, .int .i64 l.group, .int .i64 (off : Nat)]] [arenaH pa s] (fun v L => v = .tuple #[.agg #[.int .i64 0, .int .i64 0, .int .i64 0, .int .i64 0, .int .i64 0, .int .i64 0, .bool false, .int .i64 0], .int .i64 24] ∧ L = [arenaH pa s]) := by
  refine fn_intro en15 Tryz.func15 rfl rfl rfl fun Fr w0 => t_nm ?_
  refine sr <| o_boxA rfl rfl fun b1 => o_allocA rfl yZ47 fun b2 => asg rfl rfl <| lz <| o_allocA rfl yZ131 fun b4 => lc <| t_seq <| sr <| mv rfl rfl <| lc <| t_block ?_
  refine t_loop (fun k : Nat => k = 0) (fun k => [(1, .pointer (some ⟨b1, 0, none⟩)), (2, .pointer (some ⟨b2, 0, none⟩)), (4, .pointer (some ⟨b4, 0, none⟩)), (8, .int .i64 k)]) (fun k => pt b4 (.cells #[.int .i64 0, .int .i64 0, .int .i64 0, .int .i64 0, .int .i64 0, .int .i64 0, .int .i64 0, .int .i64 0] 131 (0, 0)) :: pt b1 (.cells #[.pointer (some ⟨pa, 0, none⟩), .int .i64 l.key, .int .i64 l.elem, .int .i64 l.ka, .int .i64 l.ea, .int .i64 l.cap, .int .i64 l.eo, .int .i64 l.bo, .int .i64 l.slot, .int .i64 l.group, .int .i64 (off : Nat)] 34 (0, 0)) :: pt b2 (.cells #[.int .i64 0, .int .i64 0, .int .i64 0, .int .i64 0, .int .i64 0, .int .i64 0, .bool false, .int .i64 0] 47 (0, 0)) :: arenaH pa s :: Fr) (fun k => k) 0 rfl ⟨rfl, rfl, rfl, rfl, trivial⟩ (by (exact en)) ?_
  rintro k rfl
  refine sr <| l_q rfl (qi rfl rfl (b_lss ·)) <| lc <| t_seq <| t_if rfl (fun h => ?_) fun h => ?_
  · refine t_skip <| n_code <| t_seq <| t_block <| sr <| mv rfl rfl <| asg rfl rfl <| lz <| l_q rfl (qfa 0 rfl yU34 rfl rfl yS30) <| l_q rfl (qld rfl yA30) ?_
    refine l_q rfl (qfa 10 rfl yU34 rfl rfl yS3) <| l_q rfl (qld rfl yA3) ?_
    refine mv rfl rfl <| l_q rfl (qmul rfl rfl) ?_
    refine l_q rfl (qadd rfl rfl) ?_
    refine lc1 rfl rfl rfl (Load_dead pa s _ 8 (by unfold wid; omega) (by simpa using hg) hne) ?_
    refine mv rfl rfl <| l_q rfl (q_extractL rfl ga) ?_
    refine l_q rfl (q_extractL rfl ga) ?_
    refine asg rfl rfl <| asg rfl rfl <| lc <| t_seq <| sr <| mv rfl rfl <| l_q rfl (qi rfl rfl (b_neq ·)) <| lc <| t_if rfl (fun z => ?_) fun z => ?_
    · refine sr ?_
      apply l_q rfl
      · apply q_buildS rfl yP47 yZ47
        · exact FillR.nil
      refine mv rfl rfl <| sta rfl rfl rfl yS47 rfl rfl ?_
      refine asg rfl rfl <| lc <| rt ?_
      apply f_ret (.inl rfl) ([arenaH pa s])
      · apply res2 rfl
        · apply Rv.agg rfl
          · exact tk
          · exact run_loadAll yA47 yS47 rfl
        · exact .tmp rfl
      · exact ⟨rfl, rfl⟩
      · exact en
    · exact absurd z (by decide)
  · exact absurd h (by decide)
theorem search_dead (h : Int) (key : ByteArray) : FnOk Tryz.prog 61 #[.agg #[.pointer (some ⟨pa, 0, none⟩), .int .i64 l.key, .int .i64 l.elem, .int .i64 l.ka, .int .i64 l.ea, .int .i64 l.cap, .int .i64 l.eo, .int .i64 l.bo, .int .i64 l.slot, .int .i64 l.group, .int .i64 (off : Nat)], .int .u64 h, .string key] [arenaH pa s] (fun v L => v = .tuple #[.agg #[.int .i64 0, .int .i64 0, .int .i64 0, .int .i64 0, .int .i64 0, .int .i64 0, .bool false, .int .i64 0], .agg #[.int .i64 0, .int .i64 0, .bool false, .int .i64 0], .int .i64 24] ∧ L = [arenaH pa s]) := by
  refine fn_intro en61 Tryz.func61 rfl rfl rfl fun Fr w0 => t_nm ?_
  refine sr <| o_boxA rfl rfl fun b3 => o_box1 rfl rfl rfl fun b4 => o_box1 rfl rfl rfl fun b5 => o_allocA rfl yZ47 fun b6 => o_allocA rfl yZ133 fun b7 => o_alloc1 rfl yZ44 rfl fun b8 => lc <| t_scope <| sr <| l_q rfl (qlda rfl yA34 yS34) ?_
  refine lc1 rfl rfl rfl (Stat_dead pa off s l hg hne ho) ?_
  refine mv rfl rfl <| l_q rfl (q_extractL rfl ga) ?_
  refine l_q rfl (q_extractL rfl ga) ?_
  refine o_allocA rfl yZ47 fun b9 => sta rfl rfl rfl yS47 rfl rfl ?_
  refine asg rfl rfl <| lc <| t_seq <| sr <| mv rfl rfl <| l_q rfl (qi rfl rfl (b_neq ·)) <| lc <| t_if rfl (fun z => ?_) fun z => ?_
  · refine sr <| l_q rfl (qlda rfl yA47 yS47) ?_
    apply l_q rfl
    · apply q_buildS rfl yP133 yZ133
      · exact FillR.nil
    refine mv rfl rfl <| sta rfl rfl rfl yS47 rfl rfl ?_
    refine sta rfl rfl rfl yS133 rfl rfl ?_
    refine st rfl rfl rfl yS44 rfl ?_
    refine lc <| rt ?_
    apply f_ret (.inl rfl) ([arenaH pa s])
    · apply res3 rfl
      · apply Rv.agg rfl
        · exact tk
        · exact run_loadAll yA47 yS47 rfl
      · apply Rv.agg rfl
        · exact tk
        · exact run_loadAll yA133 yS133 rfl
      · apply Rv.cellL rfl
        · exact tk
        · exact ga
        · exact yA44
    · exact ⟨rfl, rfl⟩
    · exact en
  · exact absurd z (by decide)
theorem Find_dead (h : Int) (key : ByteArray) : FnOk Tryz.prog 16 #[.agg #[.pointer (some ⟨pa, 0, none⟩), .int .i64 l.key, .int .i64 l.elem, .int .i64 l.ka, .int .i64 l.ea, .int .i64 l.cap, .int .i64 l.eo, .int .i64 l.bo, .int .i64 l.slot, .int .i64 l.group, .int .i64 (off : Nat)], .int .u64 h, .string key] [arenaH pa s] (fun v L => v = .tuple #[.int .i64 0, .int .i64 24] ∧ L = [arenaH pa s]) := by
  refine fn_intro en16 Tryz.func16 rfl rfl rfl fun Fr w0 => t_nm ?_
  refine sr <| o_boxA rfl rfl fun b3 => asg rfl rfl <| asg rfl rfl <| lz <| l_q rfl (qlda rfl yA34 yS34) ?_
  refine mv rfl rfl <| mv rfl rfl <| lc1 rfl rfl rfl (search_dead pa off s l hg hne ho h key) ?_
  refine mv rfl rfl <| l_q rfl (q_extractL rfl ga) ?_
  refine l_q rfl (q_extractL rfl ga) ?_
  refine l_q rfl (q_extractL rfl ga) ?_
  refine o_allocA rfl yZ47 fun b8 => o_allocA rfl yZ133 fun b9 => sta rfl rfl rfl yS47 rfl rfl ?_
  refine sta rfl rfl rfl yS133 rfl rfl ?_
  refine asg rfl rfl <| lz <| l_q rfl (qfa 0 rfl yU133 rfl rfl yS3) <| l_q rfl (qld rfl yA3) ?_
  exact mv rfl rfl <| asg rfl rfl <| asg rfl rfl <| lc <| rt <| fr2 rfl ([arenaH pa s]) (.tmp rfl) (.tmp rfl) ⟨rfl, rfl⟩
theorem Probes_dead (h : Int) (key : ByteArray) : FnOk Tryz.prog 23 #[.agg #[.pointer (some ⟨pa, 0, none⟩), .int .i64 l.key, .int .i64 l.elem, .int .i64 l.ka, .int .i64 l.ea, .int .i64 l.cap, .int .i64 l.eo, .int .i64 l.bo, .int .i64 l.slot, .int .i64 l.group, .int .i64 (off : Nat)], .int .u64 h, .string key] [arenaH pa s] (fun v L => v = .tuple #[.int .i64 0, .int .i64 24] ∧ L = [arenaH pa s]) := by
  refine fn_intro en23 Tryz.func23 rfl rfl rfl fun Fr w0 => t_nm ?_
  refine sr <| o_boxA rfl rfl fun b3 => asg rfl rfl <| asg rfl rfl <| lz <| l_q rfl (qlda rfl yA34 yS34) ?_
  refine mv rfl rfl <| mv rfl rfl <| lc1 rfl rfl rfl (search_dead pa off s l hg hne ho h key) ?_
  refine mv rfl rfl <| l_q rfl (q_extractL rfl ga) ?_
  refine l_q rfl (q_extractL rfl ga) ?_
  refine l_q rfl (q_extractL rfl ga) ?_
  refine o_allocA rfl yZ47 fun b8 => o_allocA rfl yZ133 fun b9 => sta rfl rfl rfl yS47 rfl rfl ?_
  refine sta rfl rfl rfl yS133 rfl rfl ?_
  refine asg rfl rfl <| lz <| l_q rfl (qfa 3 rfl yU133 rfl rfl yS3) <| l_q rfl (qld rfl yA3) ?_
  exact mv rfl rfl <| asg rfl rfl <| asg rfl rfl <| lc <| rt <| fr2 rfl ([arenaH pa s]) (.tmp rfl) (.tmp rfl) ⟨rfl, rfl⟩
theorem Get_dead (h : Int) (key : ByteArray) : FnOk Tryz.prog 17 #[.agg #[.pointer (some ⟨pa, 0, none⟩), .int .i64 l.key, .int .i64 l.elem, .int .i64 l.ka, .int .i64 l.ea, .int .i64 l.cap, .int .i64 l.eo, .int .i64 l.bo, .int .i64 l.slot, .int .i64 l.group, .int .i64 (off : Nat)], .int .u64 h, .string key] [arenaH pa s] (fun v L => v = .tuple #[.agg #[.int .i64 0, .int .i64 0, .string ⟨#[]⟩, .string ⟨#[]⟩, .int .i64 0], .int .i64 24] ∧ L = [arenaH pa s]) := by
  refine fn_intro en17 Tryz.func17 rfl rfl rfl fun Fr w0 => t_nm ?_
  refine sr <| o_boxA rfl rfl fun b3 => o_allocA rfl yZ54 fun b6 => asg rfl rfl <| lz <| l_q rfl (qlda rfl yA34 yS34) ?_
  refine mv rfl rfl <| mv rfl rfl <| lc1 rfl rfl rfl (search_dead pa off s l hg hne ho h key) ?_
  refine mv rfl rfl <| l_q rfl (q_extractL rfl ga) ?_
  refine l_q rfl (q_extractL rfl ga) ?_
  refine l_q rfl (q_extractL rfl ga) ?_
  refine o_allocA rfl yZ47 fun b8 => o_allocA rfl yZ133 fun b9 => sta rfl rfl rfl yS47 rfl rfl ?_
  refine sta rfl rfl rfl yS133 rfl rfl ?_
  refine asg rfl rfl <| lc <| t_seq <| sr <| mv rfl rfl <| l_q rfl (qi rfl rfl (b_neq ·)) <| mv rfl rfl <| l_pt (t := 21) rfl (fun z => ?_) fun z => ?_
  · refine l_off rfl rfl rfl rfl <| l_off rfl rfl rfl rfl <| l_off rfl rfl rfl rfl <| l_q rfl (q_pk rfl rfl) <| lc <| t_cond_t rfl <| sr ?_
    apply l_q rfl
    · apply q_buildS rfl yP54 yZ54
      · exact FillR.nil
    refine mv rfl rfl <| sta rfl rfl rfl yS54 rfl rfl ?_
    refine asg rfl rfl <| lc <| rt ?_
    apply f_ret (.inl rfl) ([arenaH pa s])
    · apply res2 rfl
      · apply Rv.agg rfl
        · exact tk
        · exact run_loadAll yA54 yS54 rfl
      · exact .tmp rfl
    · exact ⟨rfl, rfl⟩
    · exact en
  · exact absurd z (by decide)
theorem Put_dead (h : Int) (key elem : ByteArray) (birth : Int) : FnOk Tryz.prog 18 #[.agg #[.pointer (some ⟨pa, 0, none⟩), .int .i64 l.key, .int .i64 l.elem, .int .i64 l.ka, .int .i64 l.ea, .int .i64 l.cap, .int .i64 l.eo, .int .i64 l.bo, .int .i64 l.slot, .int .i64 l.group, .int .i64 (off : Nat)], .int .u64 h, .string key, .string elem, .int .i64 birth] [arenaH pa s] (fun v L => v = .tuple #[.int .i64 0, .int .i64 24] ∧ L = [arenaH pa s]) := by
  refine fn_intro en18 Tryz.func18 rfl rfl rfl fun Fr w0 => t_nm ?_
  refine sr <| o_boxA rfl rfl fun b5 => asg rfl rfl <| asg rfl rfl <| lz <| l_q rfl (qlda rfl yA34 yS34) ?_
  refine mv rfl rfl <| mv rfl rfl <| lc1 rfl rfl rfl (search_dead pa off s l hg hne ho h key) ?_
  refine mv rfl rfl <| l_q rfl (q_extractL rfl ga) ?_
  refine l_q rfl (q_extractL rfl ga) ?_
  refine l_q rfl (q_extractL rfl ga) ?_
  refine o_allocA rfl yZ47 fun b12 => o_allocA rfl yZ133 fun b13 => sta rfl rfl rfl yS47 rfl rfl ?_
  refine sta rfl rfl rfl yS133 rfl rfl ?_
  refine asg rfl rfl <| lc <| t_seq <| t_block <| sr <| mv rfl rfl <| l_q rfl (qi rfl rfl (b_neq ·)) <| asg rfl rfl <| lc <| t_if rfl (fun z => ?_) fun z => ?_
  · exact sr <| mv rfl rfl <| asg rfl rfl <| asg rfl rfl <| lc <| rt <| fr2 rfl ([arenaH pa s]) (.tmp rfl) (.tmp rfl) ⟨rfl, rfl⟩
  · exact absurd z (by decide)
theorem Delete_dead (h : Int) (key : ByteArray) : FnOk Tryz.prog 19 #[.agg #[.pointer (some ⟨pa, 0, none⟩), .int .i64 l.key, .int .i64 l.elem, .int .i64 l.ka, .int .i64 l.ea, .int .i64 l.cap, .int .i64 l.eo, .int .i64 l.bo, .int .i64 l.slot, .int .i64 l.group, .int .i64 (off : Nat)], .int .u64 h, .string key] [arenaH pa s] (fun v L => v = .tuple #[.bool false, .int .i64 24] ∧ L = [arenaH pa s]) := by
  refine fn_intro en19 Tryz.func19 rfl rfl rfl fun Fr w0 => t_nm ?_
  refine sr <| o_boxA rfl rfl fun b3 => asg rfl rfl <| asg rfl rfl <| lz <| l_q rfl (qlda rfl yA34 yS34) ?_
  refine mv rfl rfl <| mv rfl rfl <| lc1 rfl rfl rfl (search_dead pa off s l hg hne ho h key) ?_
  refine mv rfl rfl <| l_q rfl (q_extractL rfl ga) ?_
  refine l_q rfl (q_extractL rfl ga) ?_
  refine l_q rfl (q_extractL rfl ga) ?_
  refine o_allocA rfl yZ47 fun b8 => o_allocA rfl yZ133 fun b9 => sta rfl rfl rfl yS47 rfl rfl ?_
  refine sta rfl rfl rfl yS133 rfl rfl ?_
  refine asg rfl rfl <| lc <| t_seq <| sr <| mv rfl rfl <| l_q rfl (qi rfl rfl (b_neq ·)) <| mv rfl rfl <| l_pt (t := 25) rfl (fun z => ?_) fun z => ?_
  · exact l_off rfl rfl rfl rfl <| l_off rfl rfl rfl rfl <| l_off rfl rfl rfl rfl <| l_q rfl (q_pk rfl rfl) <| lc <| t_cond_t rfl <| sr <| mv rfl rfl <| asg rfl rfl <| asg rfl rfl <| lc <| rt <| fr2 rfl ([arenaH pa s]) (.tmp rfl) (.tmp rfl) ⟨rfl, rfl⟩
  · exact absurd z (by decide)
theorem Cell_dead (k : Int) : FnOk Tryz.prog 20 #[.agg #[.pointer (some ⟨pa, 0, none⟩), .int .i64 l.key, .int .i64 l.elem, .int .i64 l.ka, .int .i64 l.ea, .int .i64 l.cap, .int .i64 l.eo, .int .i64 l.bo, .int .i64 l.slot, .int .i64 l.group, .int .i64 (off : Nat)], .int .i64 k] [arenaH pa s] (fun v L => v = .tuple #[.agg #[.int .i64 0, .int .i64 0, .string ⟨#[]⟩, .string ⟨#[]⟩, .int .i64 0], .int .i64 24] ∧ L = [arenaH pa s]) := by
  refine fn_intro en20 Tryz.func20 rfl rfl rfl fun Fr w0 => t_nm ?_
  refine sr <| o_boxA rfl rfl fun b2 => o_allocA rfl yZ54 fun b4 => asg rfl rfl <| lz <| l_q rfl (qlda rfl yA34 yS34) ?_
  refine lc1 rfl rfl rfl (Stat_dead pa off s l hg hne ho) ?_
  refine mv rfl rfl <| l_q rfl (q_extractL rfl ga) ?_
  refine l_q rfl (q_extractL rfl ga) ?_
  refine o_allocA rfl yZ47 fun b6 => sta rfl rfl rfl yS47 rfl rfl ?_
  refine asg rfl rfl <| lc <| t_seq <| sr <| mv rfl rfl <| l_q rfl (qi rfl rfl (b_neq ·)) <| lc <| t_if rfl (fun z => ?_) fun z => ?_
  · refine sr ?_
    apply l_q rfl
    · apply q_buildS rfl yP54 yZ54
      · exact FillR.nil
    refine mv rfl rfl <| sta rfl rfl rfl yS54 rfl rfl ?_
    refine asg rfl rfl <| lc <| rt ?_
    apply f_ret (.inl rfl) ([arenaH pa s])
    · apply res2 rfl
      · apply Rv.agg rfl
        · exact tk
        · exact run_loadAll yA54 yS54 rfl
      · exact .tmp rfl
    · exact ⟨rfl, rfl⟩
    · exact en
  · exact absurd z (by decide)
theorem Pin_dead (k : Int) : FnOk Tryz.prog 21 #[.agg #[.pointer (some ⟨pa, 0, none⟩), .int .i64 l.key, .int .i64 l.elem, .int .i64 l.ka, .int .i64 l.ea, .int .i64 l.cap, .int .i64 l.eo, .int .i64 l.bo, .int .i64 l.slot, .int .i64 l.group, .int .i64 (off : Nat)], .int .i64 k] [arenaH pa s] (fun v L => v = .tuple #[.int .i64 0, .int .i64 24] ∧ L = [arenaH pa s]) := by
  refine fn_intro en21 Tryz.func21 rfl rfl rfl fun Fr w0 => t_nm ?_
  refine sr <| o_boxA rfl rfl fun b2 => asg rfl rfl <| asg rfl rfl <| lz <| l_q rfl (qlda rfl yA34 yS34) ?_
  refine lc1 rfl rfl rfl (Stat_dead pa off s l hg hne ho) ?_
  refine mv rfl rfl <| l_q rfl (q_extractL rfl ga) ?_
  refine l_q rfl (q_extractL rfl ga) ?_
  refine o_allocA rfl yZ47 fun b6 => sta rfl rfl rfl yS47 rfl rfl ?_
  refine asg rfl rfl <| lc <| t_seq <| sr <| mv rfl rfl <| l_q rfl (qi rfl rfl (b_neq ·)) <| lc <| t_if rfl (fun z => ?_) fun z => ?_
  · exact sr <| mv rfl rfl <| asg rfl rfl <| asg rfl rfl <| lc <| rt <| fr2 rfl ([arenaH pa s]) (.tmp rfl) (.tmp rfl) ⟨rfl, rfl⟩
  · exact absurd z (by decide)
theorem Group_dead (k : Int) : FnOk Tryz.prog 22 #[.agg #[.pointer (some ⟨pa, 0, none⟩), .int .i64 l.key, .int .i64 l.elem, .int .i64 l.ka, .int .i64 l.ea, .int .i64 l.cap, .int .i64 l.eo, .int .i64 l.bo, .int .i64 l.slot, .int .i64 l.group, .int .i64 (off : Nat)], .int .i64 k] [arenaH pa s] (fun v L => v = .tuple #[.agg #[.pointer none, .int .i64 0, .int .i64 0, .int .i64 0, .int .i64 0, .int .i64 0, .int .i64 0, .int .i64 0, .int .i64 0, .int .i64 0, .int .i64 0], .int .i64 24] ∧ L = [arenaH pa s]) := by
  refine fn_intro en22 Tryz.func22 rfl rfl rfl fun Fr w0 => t_nm ?_
  refine sr <| o_boxA rfl rfl fun b2 => o_allocA rfl yZ63 fun b4 => asg rfl rfl <| lz <| l_q rfl (qlda rfl yA34 yS34) ?_
  refine lc1 rfl rfl rfl (Stat_dead pa off s l hg hne ho) ?_
  refine mv rfl rfl <| l_q rfl (q_extractL rfl ga) ?_
  refine l_q rfl (q_extractL rfl ga) ?_
  refine o_allocA rfl yZ47 fun b6 => sta rfl rfl rfl yS47 rfl rfl ?_
  refine asg rfl rfl <| lc <| t_seq <| sr <| mv rfl rfl <| l_q rfl (qi rfl rfl (b_neq ·)) <| lc <| t_if rfl (fun z => ?_) fun z => ?_
  · refine sr ?_
    apply l_q rfl
    · apply q_buildS rfl yP63 yZ63
      · exact FillR.nil
    refine mv rfl rfl <| sta rfl rfl rfl yS63 rfl rfl ?_
    refine asg rfl rfl <| lc <| rt ?_
    apply f_ret (.inl rfl) ([arenaH pa s])
    · apply res2 rfl
      · apply Rv.agg rfl
        · exact tk
        · exact run_loadAll yA63 yS63 rfl
      · exact .tmp rfl
    · exact ⟨rfl, rfl⟩
    · exact en
  · exact absurd z (by decide)
theorem AddLeft_dead (k : Int) : FnOk Tryz.prog 24 #[.agg #[.pointer (some ⟨pa, 0, none⟩), .int .i64 l.key, .int .i64 l.elem, .int .i64 l.ka, .int .i64 l.ea, .int .i64 l.cap, .int .i64 l.eo, .int .i64 l.bo, .int .i64 l.slot, .int .i64 l.group, .int .i64 (off : Nat)], .int .i64 k] [arenaH pa s] (fun v L => v = .int .i64 24 ∧ L = [arenaH pa s]) := by
  refine fn_intro en24 Tryz.func24 rfl rfl rfl fun Fr w0 => t_nm ?_
  refine sr <| o_boxA rfl rfl fun b2 => asg rfl rfl <| lz <| l_q rfl (qlda rfl yA34 yS34) ?_
  refine lc1 rfl rfl rfl (Stat_dead pa off s l hg hne ho) ?_
  refine mv rfl rfl <| l_q rfl (q_extractL rfl ga) ?_
  refine l_q rfl (q_extractL rfl ga) ?_
  refine o_allocA rfl yZ47 fun b5 => sta rfl rfl rfl yS47 rfl rfl ?_
  refine asg rfl rfl <| lc <| t_seq <| sr <| mv rfl rfl <| l_q rfl (qi rfl rfl (b_neq ·)) <| lc <| t_if rfl (fun z => ?_) fun z => ?_
  · exact sr <| mv rfl rfl <| asg rfl rfl <| lc <| rt <| fr1 rfl ([arenaH pa s]) (.tmp rfl) ⟨rfl, rfl⟩
  · exact absurd z (by decide)
theorem SetNext_dead (k : Int) : FnOk Tryz.prog 26 #[.agg #[.pointer (some ⟨pa, 0, none⟩), .int .i64 l.key, .int .i64 l.elem, .int .i64 l.ka, .int .i64 l.ea, .int .i64 l.cap, .int .i64 l.eo, .int .i64 l.bo, .int .i64 l.slot, .int .i64 l.group, .int .i64 (off : Nat)], .int .i64 k] [arenaH pa s] (fun v L => v = .int .i64 24 ∧ L = [arenaH pa s]) := by
  refine fn_intro en26 Tryz.func26 rfl rfl rfl fun Fr w0 => t_nm ?_
  refine sr <| o_boxA rfl rfl fun b2 => asg rfl rfl <| lc <| t_seq <| sr <| l_q rfl (qlda rfl yA34 yS34) ?_
  refine lc1 rfl rfl rfl (Stat_dead pa off s l hg hne ho) ?_
  refine mv rfl rfl <| l_q rfl (q_extractL rfl ga) ?_
  refine l_q rfl (q_extractL rfl ga) ?_
  refine o_allocA rfl yZ47 fun b5 => sta rfl rfl rfl yS47 rfl rfl ?_
  refine asg rfl rfl <| lz <| mv rfl rfl <| l_q rfl (qi rfl rfl (b_neq ·)) <| lc <| t_if rfl (fun z => ?_) fun z => ?_
  · exact sr <| mv rfl rfl <| asg rfl rfl <| lc <| rt <| fr1 rfl ([arenaH pa s]) (.tmp rfl) ⟨rfl, rfl⟩
  · exact absurd z (by decide)
theorem Retire_dead (k : Int) : FnOk Tryz.prog 25 #[.agg #[.pointer (some ⟨pa, 0, none⟩), .int .i64 l.key, .int .i64 l.elem, .int .i64 l.ka, .int .i64 l.ea, .int .i64 l.cap, .int .i64 l.eo, .int .i64 l.bo, .int .i64 l.slot, .int .i64 l.group, .int .i64 (off : Nat)], .int .i64 k] [arenaH pa s] (fun v L => v = .int .i64 24 ∧ L = [arenaH pa s]) := by
  refine fn_intro en25 Tryz.func25 rfl rfl rfl fun Fr w0 => t_nm ?_
  refine sr <| o_boxA rfl rfl fun b2 => asg rfl rfl <| lc <| t_seq <| sr <| l_q rfl (qlda rfl yA34 yS34) ?_
  refine mv rfl rfl <| lc1 rfl rfl rfl (SetNext_dead pa off s l hg hne ho k) ?_
  refine asg rfl rfl <| lz <| mv rfl rfl <| l_q rfl (qi rfl rfl (b_neq ·)) <| lc <| t_if rfl (fun z => ?_) fun z => ?_
  · exact sr <| mv rfl rfl <| asg rfl rfl <| lc <| rt <| fr1 rfl ([arenaH pa s]) (.tmp rfl) ⟨rfl, rfl⟩
  · exact absurd z (by decide)
theorem TFree_dead : FnOk Tryz.prog 14 #[.agg #[.pointer (some ⟨pa, 0, none⟩), .int .i64 l.key, .int .i64 l.elem, .int .i64 l.ka, .int .i64 l.ea, .int .i64 l.cap, .int .i64 l.eo, .int .i64 l.bo, .int .i64 l.slot, .int .i64 l.group, .int .i64 (off : Nat)]] [arenaH pa s] (fun v L => v = .int .i64 24 ∧ L = [arenaH pa s]) := by
  refine fn_intro en14 Tryz.func14 rfl rfl rfl fun Fr w0 => t_nm ?_
  refine sr <| o_boxA rfl rfl fun b1 => asg rfl rfl <| lz <| l_q rfl (qlda rfl yA34 yS34) ?_
  refine lc1 rfl rfl rfl (Stat_dead pa off s l hg hne ho) ?_
  refine mv rfl rfl <| l_q rfl (q_extractL rfl ga) ?_
  refine l_q rfl (q_extractL rfl ga) ?_
  refine o_allocA rfl yZ47 fun b3 => sta rfl rfl rfl yS47 rfl rfl ?_
  refine asg rfl rfl <| lc <| t_seq <| sr <| mv rfl rfl <| l_q rfl (qi rfl rfl (b_neq ·)) <| lc <| t_if rfl (fun z => ?_) fun z => ?_
  · exact sr <| mv rfl rfl <| asg rfl rfl <| lc <| rt <| fr1 rfl ([arenaH pa s]) (.tmp rfl) ⟨rfl, rfl⟩
  · exact absurd z (by decide)
end
/-- Both its blocks given back. -/
theorem TFree_ok (pa off go n e : Nat) (s : ArS) (l : Lay) (T : Tb) (hP : TabP s off go l n e T) (c1 c2 : Int) (h1 : (((off : Nat) : Int), c1) ∈ s.bl) (h2 : (((go : Nat) : Int), c2) ∈ s.bl) :
    FnOk Tryz.prog 14 #[.agg #[.pointer (some ⟨pa, 0, none⟩), .int .i64 l.key, .int .i64 l.elem, .int .i64 l.ka, .int .i64 l.ea, .int .i64 l.cap, .int .i64 l.eo, .int .i64 l.bo, .int .i64 l.slot, .int .i64 l.group, .int .i64 (off : Nat)]] [arenaH pa s] (fun v L => v = .int .i64 0 ∧ L = [arenaH pa (s.gives [((off : Nat) : Int), ((go : Nat) : Int)])]) := by
  have hdj := hP.dj
  have hn8 := hP.n0
  have hgn : 0 < n * gN l := Nat.mul_pos hn8.1 (by have := (layN hP.hl).g_eq; omega)
  refine fn_intro en14 Tryz.func14 rfl rfl rfl fun Fr w0 => t_nm ?_
  refine sr <| o_boxA rfl rfl fun b1 => asg rfl rfl <| lz <| l_q rfl (qlda rfl yA34 yS34) ?_
  refine lc1 rfl rfl rfl (StatP_ok pa off go n e s l T hP) ?_
  refine mv rfl rfl <| l_q rfl (q_extractL rfl ga) ?_
  refine l_q rfl (q_extractL rfl ga) ?_
  refine o_allocA rfl yZ47 fun b3 => sta rfl rfl rfl yS47 rfl rfl ?_
  refine asg rfl rfl <| lc <| t_seq <| sr <| mv rfl rfl <| l_q rfl (qi rfl rfl (b_neq ·)) <| lc <| t_if rfl (fun z => ?_) fun z => ?_
  · exact absurd rfl z
  · refine t_skip <| nz <| l_q rfl (qfa 0 rfl yU34 rfl rfl yS30) <| l_q rfl (qld rfl yA30) ?_
    refine l_q rfl (qfa 10 rfl yU34 rfl rfl yS3) <| l_q rfl (qld rfl yA3) ?_
    refine l_q rfl (qfa 7 rfl yU47 rfl rfl yS3) <| l_q rfl (qld rfl yA3) ?_
    refine o_buildSlice1 [_, _] rfl rfl yU22 yS3 yZ3 rfl rfl rfl rfl (fun b19 => ?_)
    refine lc1 rfl rfl rfl (Free2_ok pa s b19 ((off : Nat) : Int) ((go : Nat) : Int) (by omega) ⟨_, h1⟩ ⟨_, h2⟩) ?_
    exact asg rfl rfl <| lc <| rt <| fr1 rfl ([arenaH pa (s.gives [((off : Nat) : Int), ((go : Nat) : Int)])]) (.tmp rfl) ⟨rfl, rfl⟩
end Go.Proofs.YtgijnebgchkenaaGreatDoor.Table
