import Derived.Test.YthkajgkagnenbaaGreatDoorTableW
import Derived.Test.YthkajgkagnenbaaGreatDoorPruneT
import Derived.Test.YthkajgkagnenbaaGreatDoorArenaF
/- A dead table's answers; table.Free. -/
set_option linter.unusedVariables false
set_option linter.unusedSimpArgs false
set_option maxRecDepth 100000
namespace Go.Proofs.YthkajgkagnenbaaGreatDoor.Table
open Go.RowKit Go.Proofs Go.Proofs.YthkajgkagnenbaaGreatDoor.Eng Go.Proofs.YthkajgkagnenbaaGreatDoor.Ty Go.Proofs.YthkajgkagnenbaaGreatDoor.Bits Go.Proofs.YthkajgkagnenbaaGreatDoor.Mem Go.Proofs.YthkajgkagnenbaaGreatDoor.Search Go.Proofs.YthkajgkagnenbaaGreatDoor.Arena Go.Proofs.YthkajgkagnenbaaGreatDoor.CtrlB Go.Proofs.YthkajgkagnenbaaGreatDoor.Ctrl Go.Proofs.YthkajgkagnenbaaGreatDoor.Layout Go.Proofs.YthkajgkagnenbaaGreatDoor.GroupB Go.Proofs.YthkajgkagnenbaaGreatDoor.Group Go.Proofs.YthkajgkagnenbaaGreatDoor.TableB

theorem word_dead (pa : Nat) (s : ArS) (off : Int) (k : Nat) (hk : wid k) (hg : ¬ goodP s off k) (hne : s.all ≠ []) : FnOk Tryz.prog 168 #[.pointer (some ⟨pa, 0, none⟩), .int .i64 off, .int .i64 k] [arenaH pa s]
  (fun v L => v = .int .i64 24 ∧ L = [arenaH pa s]) := by
 refine fn_intro en168 Tryz.func168 rfl rfl rfl fun Fr w0 => t_nm ?_
 refine sr<|asg O O<|lc<|t_seq<|sr<|mv O O<|lc<|t_block<|t_seq<|sr<|l_q O (qi O O (b_eql ·))<|asg O O<|lc<|t_pt (t := 8) rfl (fun h1 => ?_) fun h1 => ?_
 ·refine t_cond_t O<|t_skip<|n_code<|t_cond_t O<|t_skip<|n_blk<|n_code<|t_seq<|sr<|mv O O<|mv O O<|mv O O<|lcf O O O (good_ok pa s hne off k) ?_
  rintro v L' ⟨⟨b, rfl, hb⟩, rfl⟩
  refine l_nm ?_
  refine l_q O (q_un O (u_not ·))<|lc<|t_if O (fun z => ?_) fun z => ?_
  ·exact sr<|asg O O<|lc<|rt<|fr1 O ([arenaH pa s]) (.tmp rfl) ⟨rfl, rfl⟩
  ·exact absurd (hb.1 (by simpa using z)) hg
 ·refine t_cond_f O<|sr<|l_q O (qi O O (b_eql ·))<|asg O O<|lc<|t_pt (t := 8) rfl (fun h2 => ?_) fun h2 => ?_
  ·refine t_cond_t O<|t_skip<|n_code<|t_cond_t O<|t_skip<|n_blk<|n_code<|t_seq<|sr<|mv O O<|mv O O<|mv O O<|lcf O O O (good_ok pa s hne off k) ?_
   rintro v L' ⟨⟨b, rfl, hb⟩, rfl⟩
   refine l_nm ?_
   refine l_q O (q_un O (u_not ·))<|lc<|t_if O (fun z => ?_) fun z => ?_
   ·exact sr<|asg O O<|lc<|rt<|fr1 O ([arenaH pa s]) (.tmp rfl) ⟨rfl, rfl⟩
   ·exact absurd (hb.1 (by simpa using z)) hg
  ·refine t_cond_f O<|sr<|l_q O (qi O O (b_eql ·))<|asg O O<|lc<|t_pt (t := 8) rfl (fun h4 => ?_) fun h4 => ?_
   ·refine t_cond_t O<|t_skip<|n_code<|t_cond_t O<|t_skip<|n_blk<|n_code<|t_seq<|sr<|mv O O<|mv O O<|mv O O<|lcf O O O (good_ok pa s hne off k) ?_
    rintro v L' ⟨⟨b, rfl, hb⟩, rfl⟩
    refine l_nm ?_
    refine l_q O (q_un O (u_not ·))<|lc<|t_if O (fun z => ?_) fun z => ?_
    ·exact sr<|asg O O<|lc<|rt<|fr1 O ([arenaH pa s]) (.tmp rfl) ⟨rfl, rfl⟩
    ·exact absurd (hb.1 (by simpa using z)) hg
   ·refine t_cond_f O<|t_region<|l_q O (qi O O (b_eql ·))<|asg O O<|lc<|t_pt (t := 8) rfl (fun h8 => ?_) fun h8 => ?_
    ·refine t_cond_t O<|t_skip<|n_blk<|n_code<|t_seq<|sr<|mv O O<|mv O O<|mv O O<|lcf O O O (good_ok pa s hne off k) ?_
     rintro v L' ⟨⟨b, rfl, hb⟩, rfl⟩
     refine l_nm ?_
     refine l_q O (q_un O (u_not ·))<|lc<|t_if O (fun z => ?_) fun z => ?_
     ·exact sr<|asg O O<|lc<|rt<|fr1 O ([arenaH pa s]) (.tmp rfl) ⟨rfl, rfl⟩
     ·exact absurd (hb.1 (by simpa using z)) hg
    ·unfold wid at hk; omega
theorem Load_dead (pa : Nat) (s : ArS) (off : Int) (k : Nat) (hk : wid k) (hg : ¬ goodP s off k) (hne : s.all ≠ []) : FnOk Tryz.prog 99 #[.pointer (some ⟨pa, 0, none⟩), .int .i64 off, .int .i64 k] [arenaH pa s]
  (fun v L => v = .tuple #[.int .u64 0, .int .i64 24] ∧ L = [arenaH pa s]) := by
 refine fn_intro en99 Tryz.func99 rfl rfl rfl fun Fr w0 => t_nm ?_
 refine sr<|asg O O<|asg O O<|lc<|t_seq<|sr<|mv O O<|mv O O<|mv O O<|lc1 O O O (word_dead pa s off k hk hg hne) ?_
 refine asg O O<|lz<|mv O O<|l_q O (qi O O (b_neq ·))<|lc<|t_if O (fun z => ?_) fun z => ?_
 ·exact sr<|mv O O<|asg O O<|asg O O<|lc<|rt<|fr2 O ([arenaH pa s]) (.tmp rfl) (.tmp rfl) ⟨rfl, rfl⟩
 ·exact absurd z (by decide)
section
variable (pa : Nat) (off : Nat) (s : ArS) (l : Lay) (hg : ¬ goodP s (off : Nat) 8) (hne : s.all ≠ []) (ho : off ≤ 1000000000)
include hg hne ho
theorem Stat_dead : FnOk Tryz.prog 65 #[.agg #[.pointer (some ⟨pa, 0, none⟩), .int .i64 l.key, .int .i64 l.elem, .int .i64 l.ka, .int .i64 l.ea, .int .i64 l.cap, .int .i64 l.eo, .int .i64 l.bo, .int .i64 l.slot, .int .i64 l.group, .int .i64 (off : Nat)]] [arenaH pa s] (fun v L => v = .tuple #[.agg #[.int .i64 0, .int .i64 0, .int .i64 0, .int .i64 0, .int .i64 0, .int .i64 0, .bool false, .int .i64 0], .int .i64 24] ∧ L = [arenaH pa s]) := by
 refine fn_intro en65 Tryz.func65 rfl rfl rfl fun Fr w0 => t_nm ?_
 refine sr<|o_boxA O O fun b1 => o_allocA O yZ147 fun b2 => asg O O<|lz<|o_allocA O yZ243 fun b4 => lc<|t_seq<|sr<|mv O O<|lc<|t_block ?_
 refine t_loop (fun k : Nat => k = 0) (fun k => [(1, .pointer (some ⟨b1, 0, none⟩)), (2, .pointer (some ⟨b2, 0, none⟩)), (4, .pointer (some ⟨b4, 0, none⟩)), (8, .int .i64 k)]) (fun k => pt b4 (.cells #[.int .i64 0, .int .i64 0, .int .i64 0, .int .i64 0, .int .i64 0, .int .i64 0, .int .i64 0, .int .i64 0] 243 (0, 0)) :: pt b1 (.cells #[.pointer (some ⟨pa, 0, none⟩), .int .i64 l.key, .int .i64 l.elem, .int .i64 l.ka, .int .i64 l.ea, .int .i64 l.cap, .int .i64 l.eo, .int .i64 l.bo, .int .i64 l.slot, .int .i64 l.group, .int .i64 (off : Nat)] 39 (0, 0)) :: pt b2 (.cells #[.int .i64 0, .int .i64 0, .int .i64 0, .int .i64 0, .int .i64 0, .int .i64 0, .bool false, .int .i64 0] 147 (0, 0)) :: arenaH pa s :: Fr) (fun k => k) 0 rfl ⟨rfl, rfl, rfl, rfl, trivial⟩ (by (exact en)) ?_
 rintro k rfl
 refine sr<|l_q O (qi O O (b_lss ·))<|lc<|t_seq<|t_if O (fun h => ?_) fun h => ?_
 ·refine t_skip<|n_code<|t_seq<|t_block<|sr<|mv O O<|asg O O<|lz<|l_q O (qfa 0 rfl yU39 O O yS31)<|l_q O (qld O yA31) ?_
  refine l_q O (qfa 10 rfl yU39 O O yS3)<|l_q O (qld O yA3) ?_
  refine mv O O<|l_q O (qmul O O) ?_
  refine l_q O (qadd O O) ?_
  refine lc1 O O O (Load_dead pa s _ 8 (by unfold wid; omega) (by simpa using hg) hne) ?_
  refine mv O O<|l_q O (q_extractL O ga) ?_
  refine l_q O (q_extractL O ga) ?_
  refine asg O O<|asg O O<|lc<|t_seq<|sr<|mv O O<|l_q O (qi O O (b_neq ·))<|lc<|t_if O (fun z => ?_) fun z => ?_
  ·refine sr ?_
   apply l_q O
   ·apply q_buildS O yP147 yZ147
    ·exact FillR.nil
   refine mv O O<|sta O O O yS147 O O ?_
   refine asg O O<|lc<|rt ?_
   apply f_ret (.inl rfl) ([arenaH pa s])
   ·apply res2 O
    ·apply Rv.agg rfl
     ·exact tk
     ·exact run_loadAll yA147 yS147 O
    ·exact .tmp rfl
   ·exact ⟨rfl, rfl⟩
   ·exact en
  ·exact absurd z (by decide)
 ·exact absurd h (by decide)
theorem search_dead (h : Int) (key : ByteArray) : FnOk Tryz.prog 135 #[.agg #[.pointer (some ⟨pa, 0, none⟩), .int .i64 l.key, .int .i64 l.elem, .int .i64 l.ka, .int .i64 l.ea, .int .i64 l.cap, .int .i64 l.eo, .int .i64 l.bo, .int .i64 l.slot, .int .i64 l.group, .int .i64 (off : Nat)], .int .u64 h, .string key] [arenaH pa s] (fun v L => v = .tuple #[.agg #[.int .i64 0, .int .i64 0, .int .i64 0, .int .i64 0, .int .i64 0, .int .i64 0, .bool false, .int .i64 0], .agg #[.int .i64 0, .int .i64 0, .bool false, .int .i64 0], .int .i64 24] ∧ L = [arenaH pa s]) := by
 refine fn_intro en135 Tryz.func135 rfl rfl rfl fun Fr w0 => t_nm ?_
 refine sr<|o_boxA O O fun b3 => o_box1 O O O fun b4 => o_box1 O O O fun b5 => o_allocA O yZ147 fun b6 => o_allocA O yZ224 fun b7 => o_alloc1 O yZ77 O fun b8 => lc<|t_scope<|sr<|l_q O (qlda O yA39 yS39) ?_
 refine lc1 O O O (Stat_dead pa off s l hg hne ho) ?_
 refine mv O O<|l_q O (q_extractL O ga) ?_
 refine l_q O (q_extractL O ga) ?_
 refine o_allocA O yZ147 fun b9 => sta O O O yS147 O O ?_
 refine asg O O<|lc<|t_seq<|sr<|mv O O<|l_q O (qi O O (b_neq ·))<|lc<|t_if O (fun z => ?_) fun z => ?_
 ·refine sr<|l_q O (qlda O yA147 yS147) ?_
  apply l_q O
  ·apply q_buildS O yP224 yZ224
   ·exact FillR.nil
  refine mv O O<|sta O O O yS147 O O ?_
  refine sta O O O yS224 O O ?_
  refine st O O O yS77 O ?_
  refine lc<|rt ?_
  apply f_ret (.inl rfl) ([arenaH pa s])
  ·apply res3 O
   ·apply Rv.agg rfl
    ·exact tk
    ·exact run_loadAll yA147 yS147 O
   ·apply Rv.agg rfl
    ·exact tk
    ·exact run_loadAll yA224 yS224 O
   ·apply Rv.cellL rfl
    ·exact tk
    ·exact ga
    ·exact yA77
  ·exact ⟨rfl, rfl⟩
  ·exact en
 ·exact absurd z (by decide)
theorem Find_dead (h : Int) (key : ByteArray) : FnOk Tryz.prog 75 #[.agg #[.pointer (some ⟨pa, 0, none⟩), .int .i64 l.key, .int .i64 l.elem, .int .i64 l.ka, .int .i64 l.ea, .int .i64 l.cap, .int .i64 l.eo, .int .i64 l.bo, .int .i64 l.slot, .int .i64 l.group, .int .i64 (off : Nat)], .int .u64 h, .string key] [arenaH pa s] (fun v L => v = .tuple #[.int .i64 0, .int .i64 24] ∧ L = [arenaH pa s]) := by
 refine fn_intro en75 Tryz.func75 rfl rfl rfl fun Fr w0 => t_nm ?_
 refine sr<|o_boxA O O fun b3 => asg O O<|asg O O<|lz<|l_q O (qlda O yA39 yS39) ?_
 refine mv O O<|mv O O<|lc1 O O O (search_dead pa off s l hg hne ho h key) ?_
 refine mv O O<|l_q O (q_extractL O ga) ?_
 refine l_q O (q_extractL O ga) ?_
 refine l_q O (q_extractL O ga) ?_
 refine o_allocA O yZ147 fun b8 => o_allocA O yZ224 fun b9 => sta O O O yS147 O O ?_
 refine sta O O O yS224 O O ?_
 refine asg O O<|lz<|l_q O (qfa 0 rfl yU224 O O yS3)<|l_q O (qld O yA3) ?_
 exact mv O O<|asg O O<|asg O O<|lc<|rt<|fr2 O ([arenaH pa s]) (.tmp rfl) (.tmp rfl) ⟨rfl, rfl⟩
theorem Probes_dead (h : Int) (key : ByteArray) : FnOk Tryz.prog 79 #[.agg #[.pointer (some ⟨pa, 0, none⟩), .int .i64 l.key, .int .i64 l.elem, .int .i64 l.ka, .int .i64 l.ea, .int .i64 l.cap, .int .i64 l.eo, .int .i64 l.bo, .int .i64 l.slot, .int .i64 l.group, .int .i64 (off : Nat)], .int .u64 h, .string key] [arenaH pa s] (fun v L => v = .tuple #[.int .i64 0, .int .i64 24] ∧ L = [arenaH pa s]) := by
 refine fn_intro en79 Tryz.func79 rfl rfl rfl fun Fr w0 => t_nm ?_
 refine sr<|o_boxA O O fun b3 => asg O O<|asg O O<|lz<|l_q O (qlda O yA39 yS39) ?_
 refine mv O O<|mv O O<|lc1 O O O (search_dead pa off s l hg hne ho h key) ?_
 refine mv O O<|l_q O (q_extractL O ga) ?_
 refine l_q O (q_extractL O ga) ?_
 refine l_q O (q_extractL O ga) ?_
 refine o_allocA O yZ147 fun b8 => o_allocA O yZ224 fun b9 => sta O O O yS147 O O ?_
 refine sta O O O yS224 O O ?_
 refine asg O O<|lz<|l_q O (qfa 3 rfl yU224 O O yS3)<|l_q O (qld O yA3) ?_
 exact mv O O<|asg O O<|asg O O<|lc<|rt<|fr2 O ([arenaH pa s]) (.tmp rfl) (.tmp rfl) ⟨rfl, rfl⟩
theorem Get_dead (h : Int) (key : ByteArray) : FnOk Tryz.prog 77 #[.agg #[.pointer (some ⟨pa, 0, none⟩), .int .i64 l.key, .int .i64 l.elem, .int .i64 l.ka, .int .i64 l.ea, .int .i64 l.cap, .int .i64 l.eo, .int .i64 l.bo, .int .i64 l.slot, .int .i64 l.group, .int .i64 (off : Nat)], .int .u64 h, .string key] [arenaH pa s] (fun v L => v = .tuple #[.agg #[.int .i64 0, .int .i64 0, .string ⟨#[]⟩, .string ⟨#[]⟩, .int .i64 0], .int .i64 24] ∧ L = [arenaH pa s]) := by
 refine fn_intro en77 Tryz.func77 rfl rfl rfl fun Fr w0 => t_nm ?_
 refine sr<|o_boxA O O fun b3 => o_allocA O yZ142 fun b6 => asg O O<|lz<|l_q O (qlda O yA39 yS39) ?_
 refine mv O O<|mv O O<|lc1 O O O (search_dead pa off s l hg hne ho h key) ?_
 refine mv O O<|l_q O (q_extractL O ga) ?_
 refine l_q O (q_extractL O ga) ?_
 refine l_q O (q_extractL O ga) ?_
 refine o_allocA O yZ147 fun b8 => o_allocA O yZ224 fun b9 => sta O O O yS147 O O ?_
 refine sta O O O yS224 O O ?_
 refine asg O O<|lc<|t_seq<|sr<|mv O O<|l_q O (qi O O (b_neq ·))<|mv O O<|l_pt (t := 21) rfl (fun z => ?_) fun z => ?_
 ·refine l_off O O O O<|l_off O O O O<|l_off O O O O<|l_q O (q_pk O O)<|lc<|t_cond_t O<|sr ?_
  apply l_q O
  ·apply q_buildS O yP142 yZ142
   ·exact FillR.nil
  refine mv O O<|sta O O O yS142 O O ?_
  refine asg O O<|lc<|rt ?_
  apply f_ret (.inl rfl) ([arenaH pa s])
  ·apply res2 O
   ·apply Rv.agg rfl
    ·exact tk
    ·exact run_loadAll yA142 yS142 O
   ·exact .tmp rfl
  ·exact ⟨rfl, rfl⟩
  ·exact en
 ·exact absurd z (by decide)
theorem Put_dead (h : Int) (key elem : ByteArray) (birth : Int) : FnOk Tryz.prog 53 #[.agg #[.pointer (some ⟨pa, 0, none⟩), .int .i64 l.key, .int .i64 l.elem, .int .i64 l.ka, .int .i64 l.ea, .int .i64 l.cap, .int .i64 l.eo, .int .i64 l.bo, .int .i64 l.slot, .int .i64 l.group, .int .i64 (off : Nat)], .int .u64 h, .string key, .string elem, .int .i64 birth] [arenaH pa s] (fun v L => v = .tuple #[.int .i64 0, .int .i64 24] ∧ L = [arenaH pa s]) := by
 refine fn_intro en53 Tryz.func53 rfl rfl rfl fun Fr w0 => t_nm ?_
 refine sr<|o_boxA O O fun b5 => asg O O<|asg O O<|lz<|l_q O (qlda O yA39 yS39) ?_
 refine mv O O<|mv O O<|lc1 O O O (search_dead pa off s l hg hne ho h key) ?_
 refine mv O O<|l_q O (q_extractL O ga) ?_
 refine l_q O (q_extractL O ga) ?_
 refine l_q O (q_extractL O ga) ?_
 refine o_allocA O yZ147 fun b12 => o_allocA O yZ224 fun b13 => sta O O O yS147 O O ?_
 refine sta O O O yS224 O O ?_
 refine asg O O<|lc<|t_seq<|t_block<|sr<|mv O O<|l_q O (qi O O (b_neq ·))<|asg O O<|lc<|t_if O (fun z => ?_) fun z => ?_
 ·exact sr<|mv O O<|asg O O<|asg O O<|lc<|rt<|fr2 O ([arenaH pa s]) (.tmp rfl) (.tmp rfl) ⟨rfl, rfl⟩
 ·exact absurd z (by decide)
theorem Delete_dead (h : Int) (key : ByteArray) : FnOk Tryz.prog 82 #[.agg #[.pointer (some ⟨pa, 0, none⟩), .int .i64 l.key, .int .i64 l.elem, .int .i64 l.ka, .int .i64 l.ea, .int .i64 l.cap, .int .i64 l.eo, .int .i64 l.bo, .int .i64 l.slot, .int .i64 l.group, .int .i64 (off : Nat)], .int .u64 h, .string key] [arenaH pa s] (fun v L => v = .tuple #[.bool false, .int .i64 24] ∧ L = [arenaH pa s]) := by
 refine fn_intro en82 Tryz.func82 rfl rfl rfl fun Fr w0 => t_nm ?_
 refine sr<|o_boxA O O fun b3 => asg O O<|asg O O<|lz<|l_q O (qlda O yA39 yS39) ?_
 refine mv O O<|mv O O<|lc1 O O O (search_dead pa off s l hg hne ho h key) ?_
 refine mv O O<|l_q O (q_extractL O ga) ?_
 refine l_q O (q_extractL O ga) ?_
 refine l_q O (q_extractL O ga) ?_
 refine o_allocA O yZ147 fun b8 => o_allocA O yZ224 fun b9 => sta O O O yS147 O O ?_
 refine sta O O O yS224 O O ?_
 refine asg O O<|lc<|t_seq<|sr<|mv O O<|l_q O (qi O O (b_neq ·))<|mv O O<|l_pt (t := 25) rfl (fun z => ?_) fun z => ?_
 ·exact l_off O O O O<|l_off O O O O<|l_off O O O O<|l_q O (q_pk O O)<|lc<|t_cond_t O<|sr<|mv O O<|asg O O<|asg O O<|lc<|rt<|fr2 O ([arenaH pa s]) (.tmp rfl) (.tmp rfl) ⟨rfl, rfl⟩
 ·exact absurd z (by decide)
theorem Cell_dead (k : Int) : FnOk Tryz.prog 56 #[.agg #[.pointer (some ⟨pa, 0, none⟩), .int .i64 l.key, .int .i64 l.elem, .int .i64 l.ka, .int .i64 l.ea, .int .i64 l.cap, .int .i64 l.eo, .int .i64 l.bo, .int .i64 l.slot, .int .i64 l.group, .int .i64 (off : Nat)], .int .i64 k] [arenaH pa s] (fun v L => v = .tuple #[.agg #[.int .i64 0, .int .i64 0, .string ⟨#[]⟩, .string ⟨#[]⟩, .int .i64 0], .int .i64 24] ∧ L = [arenaH pa s]) := by
 refine fn_intro en56 Tryz.func56 rfl rfl rfl fun Fr w0 => t_nm ?_
 refine sr<|o_boxA O O fun b2 => o_allocA O yZ142 fun b4 => asg O O<|lz<|l_q O (qlda O yA39 yS39) ?_
 refine lc1 O O O (Stat_dead pa off s l hg hne ho) ?_
 refine mv O O<|l_q O (q_extractL O ga) ?_
 refine l_q O (q_extractL O ga) ?_
 refine o_allocA O yZ147 fun b6 => sta O O O yS147 O O ?_
 refine asg O O<|lc<|t_seq<|sr<|mv O O<|l_q O (qi O O (b_neq ·))<|lc<|t_if O (fun z => ?_) fun z => ?_
 ·refine sr ?_
  apply l_q O
  ·apply q_buildS O yP142 yZ142
   ·exact FillR.nil
  refine mv O O<|sta O O O yS142 O O ?_
  refine asg O O<|lc<|rt ?_
  apply f_ret (.inl rfl) ([arenaH pa s])
  ·apply res2 O
   ·apply Rv.agg rfl
    ·exact tk
    ·exact run_loadAll yA142 yS142 O
   ·exact .tmp rfl
  ·exact ⟨rfl, rfl⟩
  ·exact en
 ·exact absurd z (by decide)
theorem Pin_dead (k : Int) : FnOk Tryz.prog 86 #[.agg #[.pointer (some ⟨pa, 0, none⟩), .int .i64 l.key, .int .i64 l.elem, .int .i64 l.ka, .int .i64 l.ea, .int .i64 l.cap, .int .i64 l.eo, .int .i64 l.bo, .int .i64 l.slot, .int .i64 l.group, .int .i64 (off : Nat)], .int .i64 k] [arenaH pa s] (fun v L => v = .tuple #[.int .i64 0, .int .i64 24] ∧ L = [arenaH pa s]) := by
 refine fn_intro en86 Tryz.func86 rfl rfl rfl fun Fr w0 => t_nm ?_
 refine sr<|o_boxA O O fun b2 => asg O O<|asg O O<|lz<|l_q O (qlda O yA39 yS39) ?_
 refine lc1 O O O (Stat_dead pa off s l hg hne ho) ?_
 refine mv O O<|l_q O (q_extractL O ga) ?_
 refine l_q O (q_extractL O ga) ?_
 refine o_allocA O yZ147 fun b6 => sta O O O yS147 O O ?_
 refine asg O O<|lc<|t_seq<|sr<|mv O O<|l_q O (qi O O (b_neq ·))<|lc<|t_if O (fun z => ?_) fun z => ?_
 ·exact sr<|mv O O<|asg O O<|asg O O<|lc<|rt<|fr2 O ([arenaH pa s]) (.tmp rfl) (.tmp rfl) ⟨rfl, rfl⟩
 ·exact absurd z (by decide)
theorem Group_dead (k : Int) : FnOk Tryz.prog 96 #[.agg #[.pointer (some ⟨pa, 0, none⟩), .int .i64 l.key, .int .i64 l.elem, .int .i64 l.ka, .int .i64 l.ea, .int .i64 l.cap, .int .i64 l.eo, .int .i64 l.bo, .int .i64 l.slot, .int .i64 l.group, .int .i64 (off : Nat)], .int .i64 k] [arenaH pa s] (fun v L => v = .tuple #[.agg #[.pointer none, .int .i64 0, .int .i64 0, .int .i64 0, .int .i64 0, .int .i64 0, .int .i64 0, .int .i64 0, .int .i64 0, .int .i64 0, .int .i64 0], .int .i64 24] ∧ L = [arenaH pa s]) := by
 refine fn_intro en96 Tryz.func96 rfl rfl rfl fun Fr w0 => t_nm ?_
 refine sr<|o_boxA O O fun b2 => o_allocA O yZ182 fun b4 => asg O O<|lz<|l_q O (qlda O yA39 yS39) ?_
 refine lc1 O O O (Stat_dead pa off s l hg hne ho) ?_
 refine mv O O<|l_q O (q_extractL O ga) ?_
 refine l_q O (q_extractL O ga) ?_
 refine o_allocA O yZ147 fun b6 => sta O O O yS147 O O ?_
 refine asg O O<|lc<|t_seq<|sr<|mv O O<|l_q O (qi O O (b_neq ·))<|lc<|t_if O (fun z => ?_) fun z => ?_
 ·refine sr ?_
  apply l_q O
  ·apply q_buildS O yP182 yZ182
   ·exact FillR.nil
  refine mv O O<|sta O O O yS182 O O ?_
  refine asg O O<|lc<|rt ?_
  apply f_ret (.inl rfl) ([arenaH pa s])
  ·apply res2 O
   ·apply Rv.agg rfl
    ·exact tk
    ·exact run_loadAll yA182 yS182 O
   ·exact .tmp rfl
  ·exact ⟨rfl, rfl⟩
  ·exact en
 ·exact absurd z (by decide)
theorem AddLeft_dead (k : Int) : FnOk Tryz.prog 84 #[.agg #[.pointer (some ⟨pa, 0, none⟩), .int .i64 l.key, .int .i64 l.elem, .int .i64 l.ka, .int .i64 l.ea, .int .i64 l.cap, .int .i64 l.eo, .int .i64 l.bo, .int .i64 l.slot, .int .i64 l.group, .int .i64 (off : Nat)], .int .i64 k] [arenaH pa s] (fun v L => v = .int .i64 24 ∧ L = [arenaH pa s]) := by
 refine fn_intro en84 Tryz.func84 rfl rfl rfl fun Fr w0 => t_nm ?_
 refine sr<|o_boxA O O fun b2 => asg O O<|lz<|l_q O (qlda O yA39 yS39) ?_
 refine lc1 O O O (Stat_dead pa off s l hg hne ho) ?_
 refine mv O O<|l_q O (q_extractL O ga) ?_
 refine l_q O (q_extractL O ga) ?_
 refine o_allocA O yZ147 fun b5 => sta O O O yS147 O O ?_
 refine asg O O<|lc<|t_seq<|sr<|mv O O<|l_q O (qi O O (b_neq ·))<|lc<|t_if O (fun z => ?_) fun z => ?_
 ·exact sr<|mv O O<|asg O O<|lc<|rt<|fr1 O ([arenaH pa s]) (.tmp rfl) ⟨rfl, rfl⟩
 ·exact absurd z (by decide)
theorem SetNext_dead (k : Int) : FnOk Tryz.prog 90 #[.agg #[.pointer (some ⟨pa, 0, none⟩), .int .i64 l.key, .int .i64 l.elem, .int .i64 l.ka, .int .i64 l.ea, .int .i64 l.cap, .int .i64 l.eo, .int .i64 l.bo, .int .i64 l.slot, .int .i64 l.group, .int .i64 (off : Nat)], .int .i64 k] [arenaH pa s] (fun v L => v = .int .i64 24 ∧ L = [arenaH pa s]) := by
 refine fn_intro en90 Tryz.func90 rfl rfl rfl fun Fr w0 => t_nm ?_
 refine sr<|o_boxA O O fun b2 => asg O O<|lc<|t_seq<|sr<|l_q O (qlda O yA39 yS39) ?_
 refine lc1 O O O (Stat_dead pa off s l hg hne ho) ?_
 refine mv O O<|l_q O (q_extractL O ga) ?_
 refine l_q O (q_extractL O ga) ?_
 refine o_allocA O yZ147 fun b5 => sta O O O yS147 O O ?_
 refine asg O O<|lz<|mv O O<|l_q O (qi O O (b_neq ·))<|lc<|t_if O (fun z => ?_) fun z => ?_
 ·exact sr<|mv O O<|asg O O<|lc<|rt<|fr1 O ([arenaH pa s]) (.tmp rfl) ⟨rfl, rfl⟩
 ·exact absurd z (by decide)
theorem Retire_dead (k : Int) : FnOk Tryz.prog 88 #[.agg #[.pointer (some ⟨pa, 0, none⟩), .int .i64 l.key, .int .i64 l.elem, .int .i64 l.ka, .int .i64 l.ea, .int .i64 l.cap, .int .i64 l.eo, .int .i64 l.bo, .int .i64 l.slot, .int .i64 l.group, .int .i64 (off : Nat)], .int .i64 k] [arenaH pa s] (fun v L => v = .int .i64 24 ∧ L = [arenaH pa s]) := by
 refine fn_intro en88 Tryz.func88 rfl rfl rfl fun Fr w0 => t_nm ?_
 refine sr<|o_boxA O O fun b2 => asg O O<|lc<|t_seq<|sr<|l_q O (qlda O yA39 yS39) ?_
 refine mv O O<|lc1 O O O (SetNext_dead pa off s l hg hne ho k) ?_
 refine asg O O<|lz<|mv O O<|l_q O (qi O O (b_neq ·))<|lc<|t_if O (fun z => ?_) fun z => ?_
 ·exact sr<|mv O O<|asg O O<|lc<|rt<|fr1 O ([arenaH pa s]) (.tmp rfl) ⟨rfl, rfl⟩
 ·exact absurd z (by decide)
theorem TFree_dead : FnOk Tryz.prog 92 #[.agg #[.pointer (some ⟨pa, 0, none⟩), .int .i64 l.key, .int .i64 l.elem, .int .i64 l.ka, .int .i64 l.ea, .int .i64 l.cap, .int .i64 l.eo, .int .i64 l.bo, .int .i64 l.slot, .int .i64 l.group, .int .i64 (off : Nat)]] [arenaH pa s] (fun v L => v = .int .i64 24 ∧ L = [arenaH pa s]) := by
 refine fn_intro en92 Tryz.func92 rfl rfl rfl fun Fr w0 => t_nm ?_
 refine sr<|o_boxA O O fun b1 => asg O O<|lz<|l_q O (qlda O yA39 yS39) ?_
 refine lc1 O O O (Stat_dead pa off s l hg hne ho) ?_
 refine mv O O<|l_q O (q_extractL O ga) ?_
 refine l_q O (q_extractL O ga) ?_
 refine o_allocA O yZ147 fun b3 => sta O O O yS147 O O ?_
 refine asg O O<|lc<|t_seq<|sr<|mv O O<|l_q O (qi O O (b_neq ·))<|lc<|t_if O (fun z => ?_) fun z => ?_
 ·exact sr<|mv O O<|asg O O<|lc<|rt<|fr1 O ([arenaH pa s]) (.tmp rfl) ⟨rfl, rfl⟩
 ·exact absurd z (by decide)
end
/-- Both its blocks given back. -/
theorem TFree_ok (pa off go n e : Nat) (s : ArS) (l : Lay) (T : Tb) (hP : TabP s off go l n e T) (c1 c2 : Int) (h1 : (((off : Nat) : Int), c1) ∈ s.bl) (h2 : (((go : Nat) : Int), c2) ∈ s.bl) :
  FnOk Tryz.prog 92 #[.agg #[.pointer (some ⟨pa, 0, none⟩), .int .i64 l.key, .int .i64 l.elem, .int .i64 l.ka, .int .i64 l.ea, .int .i64 l.cap, .int .i64 l.eo, .int .i64 l.bo, .int .i64 l.slot, .int .i64 l.group, .int .i64 (off : Nat)]] [arenaH pa s] (fun v L => v = .int .i64 0 ∧ L = [arenaH pa (s.gives [((off : Nat) : Int), ((go : Nat) : Int)])]) := by
 have hdj := hP.dj
 have hn8 := hP.n0
 have hgn : 0 < n * gN l := Nat.mul_pos hn8.1 (by have := (layN hP.hl).g_eq; omega)
 refine fn_intro en92 Tryz.func92 rfl rfl rfl fun Fr w0 => t_nm ?_
 refine sr<|o_boxA O O fun b1 => asg O O<|lz<|l_q O (qlda O yA39 yS39) ?_
 refine lc1 O O O (StatP_ok pa off go n e s l T hP) ?_
 refine mv O O<|l_q O (q_extractL O ga) ?_
 refine l_q O (q_extractL O ga) ?_
 refine o_allocA O yZ147 fun b3 => sta O O O yS147 O O ?_
 refine asg O O<|lc<|t_seq<|sr<|mv O O<|l_q O (qi O O (b_neq ·))<|lc<|t_if O (fun z => ?_) fun z => ?_
 ·exact absurd rfl z
 ·refine t_skip<|nz<|l_q O (qfa 0 rfl yU39 O O yS31)<|l_q O (qld O yA31) ?_
  refine l_q O (qfa 10 rfl yU39 O O yS3)<|l_q O (qld O yA3) ?_
  refine l_q O (qfa 7 rfl yU147 O O yS3)<|l_q O (qld O yA3) ?_
  refine o_buildSlice1 [_, _] rfl rfl yU22 yS3 yZ3 O O O O (fun b19 => ?_)
  refine lc1 O O O (Free2_ok pa s b19 ((off : Nat) : Int) ((go : Nat) : Int) (by omega) ⟨_, h1⟩ ⟨_, h2⟩) ?_
  exact asg O O<|lc<|rt<|fr1 O ([arenaH pa (s.gives [((off : Nat) : Int), ((go : Nat) : Int)])]) (.tmp rfl) ⟨rfl, rfl⟩
end Go.Proofs.YthkajgkagnenbaaGreatDoor.Table
