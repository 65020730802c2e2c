import Derived.Test.YthkajgkagnenbaaGreatDoorTableW
import Derived.Test.YthkajgkagnenbaaGreatDoorPruneT
import Derived.Test.YthkajgkagnenbaaGreatDoorTableN
/- Further answers of a table: to keys of a wrong width, slots that are not there, numbers out of range. -/
set_option linter.unusedVariables false
set_option linter.unusedSimpArgs false
set_option maxRecDepth 100000
namespace Go.Proofs.YthkajgkagnenbaaGreatDoor.Table
open Go.RowKit Go.Proofs Go.Proofs.YthkajgkagnenbaaGreatDoor.Eng Go.Proofs.YthkajgkagnenbaaGreatDoor.Ty Go.Proofs.YthkajgkagnenbaaGreatDoor.Bits Go.Proofs.YthkajgkagnenbaaGreatDoor.Mem Go.Proofs.YthkajgkagnenbaaGreatDoor.Search Go.Proofs.YthkajgkagnenbaaGreatDoor.Arena Go.Proofs.YthkajgkagnenbaaGreatDoor.CtrlB Go.Proofs.YthkajgkagnenbaaGreatDoor.Ctrl Go.Proofs.YthkajgkagnenbaaGreatDoor.Layout Go.Proofs.YthkajgkagnenbaaGreatDoor.GroupB Go.Proofs.YthkajgkagnenbaaGreatDoor.Group Go.Proofs.YthkajgkagnenbaaGreatDoor.Probe Go.Proofs.YthkajgkagnenbaaGreatDoor.TableB Go.Proofs.YthkajgkagnenbaaGreatDoor.TableI

section
variable (G : HP) (hG : TabOk G) (pa off go n e : Nat) (s : ArS) (l : Lay) (T : Tb) (hP : TabP s off go l n e T)
include hP
section
variable (h : Int) (key : ByteArray) (hk : (key.size : Int) ≠ l.key)
include hk
theorem search_bad : FnOk Tryz.prog 135 #[.agg #[.pointer (some ⟨pa, 0, none⟩), .int .i64 l.key, .int .i64 l.elem, .int .i64 l.ka, .int .i64 l.ea, .int .i64 l.cap, .int .i64 l.eo, .int .i64 l.bo, .int .i64 l.slot, .int .i64 l.group, .int .i64 (off : Nat)], .int .u64 h, .string key] [arenaH pa s] (fun v L => v = .tuple #[.agg #[.int .i64 T.used, .int .i64 (8 * (n : Int)), .int .i64 T.left, .int .i64 T.depth, .int .i64 T.pins, .int .i64 T.next, .bool (decide (T.kind = 4)), .int .i64 (go : Nat)], .agg #[.int .i64 0, .int .i64 0, .bool false, .int .i64 0], .int .i64 61] ∧ L = [arenaH pa s]) := by
 refine fn_intro en135 Tryz.func135 rfl rfl rfl fun Fr w0 => t_nm ?_
 refine sr<|o_boxA O O fun b3 => o_box1 O O O fun b4 => o_box1 O O O fun b5 => o_allocA O yZ147 fun b6 => o_allocA O yZ224 fun b7 => o_alloc1 O yZ77 O fun b8 => lc<|t_scope<|sr<|l_q O (qlda O yA39 yS39) ?_
 refine lc1 O O O (StatP_ok pa off go n e s l T hP) ?_
 refine mv O O<|l_q O (q_extractL O ga) ?_
 refine l_q O (q_extractL O ga) ?_
 refine o_allocA O yZ147 fun b9 => sta O O O yS147 O O ?_
 refine asg O O<|lc<|t_seq<|sr<|mv O O<|l_q O (qi O O (b_neq ·))<|lc<|t_if O (fun z => ?_) fun z => ?_
 ·exact absurd rfl z
 ·refine t_skip<|n_code<|t_seq<|sr<|l_q O (qld O yA9) ?_
  refine l_q O (qls O yU9)<|l_q O (qfa 1 rfl yU39 O O yS34)<|l_q O (qfa 0 rfl yU34 O O yS3)<|l_q O (qld O yA3) ?_
  refine l_q O (qi O O (b_neq ·))<|lc<|t_if O (fun y => ?_) fun y => ?_
  ·refine sr<|l_q O (qlda O yA147 yS147) ?_
   apply l_q O
   ·apply q_buildS O yP224 yZ224
    ·exact FillR.nil
   refine sta O O O yS147 O O ?_
   refine sta O O O yS224 O O ?_
   refine st O O O yS77 O ?_
   refine lc<|rt ?_
   apply f_ret (.inl rfl) ([arenaH pa s])
   ·apply res3 O
    ·apply Rv.agg rfl
     ·exact tk
     ·exact run_loadAll yA147 yS147 O
    ·apply Rv.agg rfl
     ·exact tk
     ·exact run_loadAll yA224 yS224 O
    ·apply Rv.cellL rfl
     ·exact tk
     ·exact ga
     ·exact yA77
   ·exact ⟨rfl, rfl⟩
   ·exact en
  ·exact absurd (by omega) hk
theorem Find_bad : FnOk Tryz.prog 75 #[.agg #[.pointer (some ⟨pa, 0, none⟩), .int .i64 l.key, .int .i64 l.elem, .int .i64 l.ka, .int .i64 l.ea, .int .i64 l.cap, .int .i64 l.eo, .int .i64 l.bo, .int .i64 l.slot, .int .i64 l.group, .int .i64 (off : Nat)], .int .u64 h, .string key] [arenaH pa s] (fun v L => v = .tuple #[.int .i64 0, .int .i64 61] ∧ L = [arenaH pa s]) := by
 refine fn_intro en75 Tryz.func75 rfl rfl rfl fun Fr w0 => t_nm ?_
 refine sr<|o_boxA O O fun b3 => asg O O<|asg O O<|lz<|l_q O (qlda O yA39 yS39) ?_
 refine mv O O<|mv O O<|lc1 O O O (search_bad pa off go n e s l T hP h key hk) ?_
 refine mv O O<|l_q O (q_extractL O ga) ?_
 refine l_q O (q_extractL O ga) ?_
 refine l_q O (q_extractL O ga) ?_
 refine o_allocA O yZ147 fun b8 => o_allocA O yZ224 fun b9 => sta O O O yS147 O O ?_
 refine sta O O O yS224 O O ?_
 refine asg O O<|lz<|l_q O (qfa 0 rfl yU224 O O yS3)<|l_q O (qld O yA3) ?_
 exact mv O O<|asg O O<|asg O O<|lc<|rt<|fr2 O ([arenaH pa s]) (.tmp rfl) (.tmp rfl) ⟨rfl, rfl⟩
theorem Probes_bad : FnOk Tryz.prog 79 #[.agg #[.pointer (some ⟨pa, 0, none⟩), .int .i64 l.key, .int .i64 l.elem, .int .i64 l.ka, .int .i64 l.ea, .int .i64 l.cap, .int .i64 l.eo, .int .i64 l.bo, .int .i64 l.slot, .int .i64 l.group, .int .i64 (off : Nat)], .int .u64 h, .string key] [arenaH pa s] (fun v L => v = .tuple #[.int .i64 0, .int .i64 61] ∧ L = [arenaH pa s]) := by
 refine fn_intro en79 Tryz.func79 rfl rfl rfl fun Fr w0 => t_nm ?_
 refine sr<|o_boxA O O fun b3 => asg O O<|asg O O<|lz<|l_q O (qlda O yA39 yS39) ?_
 refine mv O O<|mv O O<|lc1 O O O (search_bad pa off go n e s l T hP h key hk) ?_
 refine mv O O<|l_q O (q_extractL O ga) ?_
 refine l_q O (q_extractL O ga) ?_
 refine l_q O (q_extractL O ga) ?_
 refine o_allocA O yZ147 fun b8 => o_allocA O yZ224 fun b9 => sta O O O yS147 O O ?_
 refine sta O O O yS224 O O ?_
 refine asg O O<|lz<|l_q O (qfa 3 rfl yU224 O O yS3)<|l_q O (qld O yA3) ?_
 exact mv O O<|asg O O<|asg O O<|lc<|rt<|fr2 O ([arenaH pa s]) (.tmp rfl) (.tmp rfl) ⟨rfl, rfl⟩
theorem Get_bad : FnOk Tryz.prog 77 #[.agg #[.pointer (some ⟨pa, 0, none⟩), .int .i64 l.key, .int .i64 l.elem, .int .i64 l.ka, .int .i64 l.ea, .int .i64 l.cap, .int .i64 l.eo, .int .i64 l.bo, .int .i64 l.slot, .int .i64 l.group, .int .i64 (off : Nat)], .int .u64 h, .string key] [arenaH pa s] (fun v L => v = .tuple #[.agg #[.int .i64 0, .int .i64 0, .string ⟨#[]⟩, .string ⟨#[]⟩, .int .i64 0], .int .i64 61] ∧ L = [arenaH pa s]) := by
 refine fn_intro en77 Tryz.func77 rfl rfl rfl fun Fr w0 => t_nm ?_
 refine sr<|o_boxA O O fun b3 => o_allocA O yZ142 fun b6 => asg O O<|lz<|l_q O (qlda O yA39 yS39) ?_
 refine mv O O<|mv O O<|lc1 O O O (search_bad pa off go n e s l T hP h key hk) ?_
 refine mv O O<|l_q O (q_extractL O ga) ?_
 refine l_q O (q_extractL O ga) ?_
 refine l_q O (q_extractL O ga) ?_
 refine o_allocA O yZ147 fun b8 => o_allocA O yZ224 fun b9 => sta O O O yS147 O O ?_
 refine sta O O O yS224 O O ?_
 refine asg O O<|lc<|t_seq<|sr<|mv O O<|l_q O (qi O O (b_neq ·))<|mv O O<|l_pt (t := 21) rfl (fun z => ?_) fun z => ?_
 ·refine l_off O O O O<|l_off O O O O<|l_off O O O O<|l_q O (q_pk O O)<|lc<|t_cond_t O<|sr ?_
  apply l_q O
  ·apply q_buildS O yP142 yZ142
   ·exact FillR.nil
  refine mv O O<|sta O O O yS142 O O ?_
  refine asg O O<|lc<|rt ?_
  apply f_ret (.inl rfl) ([arenaH pa s])
  ·apply res2 O
   ·apply Rv.agg rfl
    ·exact tk
    ·exact run_loadAll yA142 yS142 O
   ·exact .tmp rfl
  ·exact ⟨rfl, rfl⟩
  ·exact en
 ·exact absurd z (by decide)
theorem Put_bad (elem : ByteArray) (birth : Int) : FnOk Tryz.prog 53 #[.agg #[.pointer (some ⟨pa, 0, none⟩), .int .i64 l.key, .int .i64 l.elem, .int .i64 l.ka, .int .i64 l.ea, .int .i64 l.cap, .int .i64 l.eo, .int .i64 l.bo, .int .i64 l.slot, .int .i64 l.group, .int .i64 (off : Nat)], .int .u64 h, .string key, .string elem, .int .i64 birth] [arenaH pa s] (fun v L => v = .tuple #[.int .i64 0, .int .i64 61] ∧ L = [arenaH pa s]) := by
 refine fn_intro en53 Tryz.func53 rfl rfl rfl fun Fr w0 => t_nm ?_
 refine sr<|o_boxA O O fun b5 => asg O O<|asg O O<|lz<|l_q O (qlda O yA39 yS39) ?_
 refine mv O O<|mv O O<|lc1 O O O (search_bad pa off go n e s l T hP h key hk) ?_
 refine mv O O<|l_q O (q_extractL O ga) ?_
 refine l_q O (q_extractL O ga) ?_
 refine l_q O (q_extractL O ga) ?_
 refine o_allocA O yZ147 fun b12 => o_allocA O yZ224 fun b13 => sta O O O yS147 O O ?_
 refine sta O O O yS224 O O ?_
 refine asg O O<|lc<|t_seq<|t_block<|sr<|mv O O<|l_q O (qi O O (b_neq ·))<|asg O O<|lc<|t_if O (fun z => ?_) fun z => ?_
 ·exact sr<|mv O O<|asg O O<|asg O O<|lc<|rt<|fr2 O ([arenaH pa s]) (.tmp rfl) (.tmp rfl) ⟨rfl, rfl⟩
 ·exact absurd z (by decide)
theorem Delete_bad : FnOk Tryz.prog 82 #[.agg #[.pointer (some ⟨pa, 0, none⟩), .int .i64 l.key, .int .i64 l.elem, .int .i64 l.ka, .int .i64 l.ea, .int .i64 l.cap, .int .i64 l.eo, .int .i64 l.bo, .int .i64 l.slot, .int .i64 l.group, .int .i64 (off : Nat)], .int .u64 h, .string key] [arenaH pa s] (fun v L => v = .tuple #[.bool false, .int .i64 61] ∧ L = [arenaH pa s]) := by
 refine fn_intro en82 Tryz.func82 rfl rfl rfl fun Fr w0 => t_nm ?_
 refine sr<|o_boxA O O fun b3 => asg O O<|asg O O<|lz<|l_q O (qlda O yA39 yS39) ?_
 refine mv O O<|mv O O<|lc1 O O O (search_bad pa off go n e s l T hP h key hk) ?_
 refine mv O O<|l_q O (q_extractL O ga) ?_
 refine l_q O (q_extractL O ga) ?_
 refine l_q O (q_extractL O ga) ?_
 refine o_allocA O yZ147 fun b8 => o_allocA O yZ224 fun b9 => sta O O O yS147 O O ?_
 refine sta O O O yS224 O O ?_
 refine asg O O<|lc<|t_seq<|sr<|mv O O<|l_q O (qi O O (b_neq ·))<|mv O O<|l_pt (t := 25) rfl (fun z => ?_) fun z => ?_
 ·exact l_off O O O O<|l_off O O O O<|l_off O O O O<|l_q O (q_pk O O)<|lc<|t_cond_t O<|sr<|mv O O<|asg O O<|asg O O<|lc<|rt<|fr2 O ([arenaH pa s]) (.tmp rfl) (.tmp rfl) ⟨rfl, rfl⟩
 ·exact absurd z (by decide)
end
theorem Cell_bad (k : Int) (hk : k < 0 ∨ 8 * (n : Int) ≤ k) : FnOk Tryz.prog 56 #[.agg #[.pointer (some ⟨pa, 0, none⟩), .int .i64 l.key, .int .i64 l.elem, .int .i64 l.ka, .int .i64 l.ea, .int .i64 l.cap, .int .i64 l.eo, .int .i64 l.bo, .int .i64 l.slot, .int .i64 l.group, .int .i64 (off : Nat)], .int .i64 k] [arenaH pa s] (fun v L => v = .tuple #[.agg #[.int .i64 0, .int .i64 0, .string ⟨#[]⟩, .string ⟨#[]⟩, .int .i64 0], .int .i64 60] ∧ L = [arenaH pa s]) := by
 have hn8 := hP.n0
 refine fn_intro en56 Tryz.func56 rfl rfl rfl fun Fr w0 => t_nm ?_
 refine sr<|o_boxA O O fun b2 => o_allocA O yZ142 fun b4 => asg O O<|lz<|l_q O (qlda O yA39 yS39) ?_
 refine lc1 O O O (StatP_ok pa off go n e s l T hP) ?_
 refine mv O O<|l_q O (q_extractL O ga) ?_
 refine l_q O (q_extractL O ga) ?_
 refine o_allocA O yZ147 fun b6 => sta O O O yS147 O O ?_
 refine asg O O<|lc<|t_seq<|sr<|mv O O<|l_q O (qi O O (b_neq ·))<|lc<|t_if O (fun z => ?_) fun z => ?_
 ·exact absurd rfl z
 ·refine t_skip<|n_code<|t_seq<|sr<|mv O O<|l_q O (qi O O (b_lss ·))<|mv O O<|l_pt (t := 19) rfl (fun y1 => ?_) fun y1 => ?_
  ·refine l_off O O O O<|l_off O O O O<|l_off O O O O<|l_off O O O O<|l_q O (q_pk O O)<|lc<|t_cond_t O<|sr ?_
   apply l_q O
   ·apply q_buildS O yP142 yZ142
    ·exact FillR.nil
   refine sta O O O yS142 O O ?_
   refine asg O O<|lc<|rt ?_
   apply f_ret (.inl rfl) ([arenaH pa s])
   ·apply res2 O
    ·apply Rv.agg rfl
     ·exact tk
     ·exact run_loadAll yA142 yS142 O
    ·exact .tmp rfl
   ·exact ⟨rfl, rfl⟩
   ·exact en
  ·refine l_on O O<|mv O O<|l_on O O<|l_q O (qfa 1 rfl yU147 O O yS3)<|l_on O O<|l_q O (qld O yA3) ?_
   refine l_on O O<|l_q O (qi O O (b_geq ·))<|l_q O (q_pk O O)<|lc<|t_if O (fun y2 => ?_) fun y2 => ?_
   ·refine sr ?_
    apply l_q O
    ·apply q_buildS O yP142 yZ142
     ·exact FillR.nil
    refine sta O O O yS142 O O ?_
    refine asg O O<|lc<|rt ?_
    apply f_ret (.inl rfl) ([arenaH pa s])
    ·apply res2 O
     ·apply Rv.agg rfl
      ·exact tk
      ·exact run_loadAll yA142 yS142 O
     ·exact .tmp rfl
    ·exact ⟨rfl, rfl⟩
    ·exact en
   ·omega
theorem Group_bad (k : Int) (hk : k < 0 ∨ (n : Int) ≤ k) : FnOk Tryz.prog 96 #[.agg #[.pointer (some ⟨pa, 0, none⟩), .int .i64 l.key, .int .i64 l.elem, .int .i64 l.ka, .int .i64 l.ea, .int .i64 l.cap, .int .i64 l.eo, .int .i64 l.bo, .int .i64 l.slot, .int .i64 l.group, .int .i64 (off : Nat)], .int .i64 k] [arenaH pa s] (fun v L => v = .tuple #[.agg #[.pointer none, .int .i64 0, .int .i64 0, .int .i64 0, .int .i64 0, .int .i64 0, .int .i64 0, .int .i64 0, .int .i64 0, .int .i64 0, .int .i64 0], .int .i64 60] ∧ L = [arenaH pa s]) := by
 have hn8 := hP.n0
 refine fn_intro en96 Tryz.func96 rfl rfl rfl fun Fr w0 => t_nm ?_
 refine sr<|o_boxA O O fun b2 => o_allocA O yZ182 fun b4 => asg O O<|lz<|l_q O (qlda O yA39 yS39) ?_
 refine lc1 O O O (StatP_ok pa off go n e s l T hP) ?_
 refine mv O O<|l_q O (q_extractL O ga) ?_
 refine l_q O (q_extractL O ga) ?_
 refine o_allocA O yZ147 fun b6 => sta O O O yS147 O O ?_
 refine asg O O<|lc<|t_seq<|sr<|mv O O<|l_q O (qi O O (b_neq ·))<|lc<|t_if O (fun z => ?_) fun z => ?_
 ·exact absurd rfl z
 ·refine t_skip<|n_code<|t_seq<|sr<|mv O O<|l_q O (qi O O (b_lss ·))<|mv O O<|l_pt (t := 19) rfl (fun y1 => ?_) fun y1 => ?_
  ·refine l_off O O O O<|l_off O O O O<|l_off O O O O<|l_off O O O O<|l_off O O O O<|l_q O (q_pk O O)<|lc<|t_cond_t O<|sr ?_
   apply l_q O
   ·apply q_buildS O yP182 yZ182
    ·exact FillR.nil
   refine sta O O O yS182 O O ?_
   refine asg O O<|lc<|rt ?_
   apply f_ret (.inl rfl) ([arenaH pa s])
   ·apply res2 O
    ·apply Rv.agg rfl
     ·exact tk
     ·exact run_loadAll yA182 yS182 O
    ·exact .tmp rfl
   ·exact ⟨rfl, rfl⟩
   ·exact en
  ·refine l_on O O<|mv O O<|l_on O O<|l_q O (qfa 1 rfl yU147 O O yS3)<|l_on O O<|l_q O (qld O yA3) ?_
   refine l_on O O<|l_q O (qquo O O) ?_
   refine l_on O O<|l_q O (qi O O (b_geq ·))<|l_q O (q_pk O O)<|lc<|t_if O (fun y2 => ?_) fun y2 => ?_
   ·refine sr ?_
    apply l_q O
    ·apply q_buildS O yP182 yZ182
     ·exact FillR.nil
    refine sta O O O yS182 O O ?_
    refine asg O O<|lc<|rt ?_
    apply f_ret (.inl rfl) ([arenaH pa s])
    ·apply res2 O
     ·apply Rv.agg rfl
      ·exact tk
      ·exact run_loadAll yA182 yS182 O
     ·exact .tmp rfl
    ·exact ⟨rfl, rfl⟩
    ·exact en
   ·omega
theorem AddLeft_all (v : Int) (hv : -9223372036854775808 ≤ v ∧ v ≤ 9223372036854775807) (hl : 0 ≤ T.left ∧ T.left ≤ 1099511627776) :
  FnOk Tryz.prog 84 #[.agg #[.pointer (some ⟨pa, 0, none⟩), .int .i64 l.key, .int .i64 l.elem, .int .i64 l.ka, .int .i64 l.ea, .int .i64 l.cap, .int .i64 l.eo, .int .i64 l.bo, .int .i64 l.slot, .int .i64 l.group, .int .i64 (off : Nat)], .int .i64 v] [arenaH pa s] (fun r L =>
   ((v < -T.left ∨ 7 * (n : Int) - ((cnt isFull T.cells (8 * n) : Nat) : Int) - ((cnt isDel T.cells (8 * n) : Nat) : Int) - T.left < v) ∧ r = .int .i64 82 ∧ L = [arenaH pa s]) ∨
   (-T.left ≤ v ∧ v ≤ 7 * (n : Int) - ((cnt isFull T.cells (8 * n) : Nat) : Int) - ((cnt isDel T.cells (8 * n) : Nat) : Int) - T.left ∧ ∃ s', r = .int .i64 0 ∧ L = [arenaH pa s'] ∧ TabP s' off go l n e { T with left := T.left + v } ∧ SameBut s s' off go (n * gN l))) := by
 have hn8 := hP.n0
 have h3 := cnt_three T.cells (8 * n)
 have hneg : IntKind.i64.wrap (0 - T.left) = -T.left := by rw [wrap_i64 (by omega)]; omega
 refine fn_intro en84 Tryz.func84 rfl rfl rfl fun Fr w0 => t_nm ?_
 refine t_pure (φ := s.ok) (fun w hw => arena_ok hw .here) fun hok0 => ?_
 have hst0 := hok0.stop_eq
 refine sr<|o_boxA O O fun b2 => asg O O<|lz<|l_q O (qlda O yA39 yS39) ?_
 refine lc1 O O O (StatP_ok pa off go n e s l T hP) ?_
 refine mv O O<|l_q O (q_extractL O ga) ?_
 refine l_q O (q_extractL O ga) ?_
 refine o_allocA O yZ147 fun b5 => sta O O O yS147 O O ?_
 refine asg O O<|lc<|t_seq<|sr<|mv O O<|l_q O (qi O O (b_neq ·))<|lc<|t_if O (fun z => ?_) fun z => ?_
 ·exact absurd rfl z
 ·refine t_skip<|nz<|asg O O<|lc<|t_seq<|sr<|l_q O (qfa 1 rfl yU147 O O yS3)<|l_q O (qld O yA3) ?_
  refine l_q O (qquo O O) ?_
  refine mv O O<|lc<|t_block ?_
  rw [show (8 * (n : Int)) / 8 = ((n : Nat) : Int) by omega]
  refine t_loop (fun i : Nat => i ≤ n) (fun i => [(1, .int .i64 v), (2, .pointer (some ⟨b2, 0, none⟩)), (5, .pointer (some ⟨b5, 0, none⟩)), (7, .int .i64 (8 * (i : Int) - ((cnt isEmp T.cells (8 * i) : Nat) : Int))), (21, .int .i64 (n : Nat)), (22, .int .i64 (i : Nat))]) (fun _ => pt b5 (.cells #[.int .i64 T.used, .int .i64 (8 * (n : Int)), .int .i64 T.left, .int .i64 T.depth, .int .i64 T.pins, .int .i64 T.next, .bool (decide (T.kind = 4)), .int .i64 (go : Nat)] 147 (0, 0)) :: pt b2 (.cells #[.pointer (some ⟨pa, 0, none⟩), .int .i64 l.key, .int .i64 l.elem, .int .i64 l.ka, .int .i64 l.ea, .int .i64 l.cap, .int .i64 l.eo, .int .i64 l.bo, .int .i64 l.slot, .int .i64 l.group, .int .i64 (off : Nat)] 39 (0, 0)) :: arenaH pa s :: Fr) (fun i => n - i) 0 (Nat.zero_le _) ⟨rfl, rfl, rfl, rfl, rfl, rfl, trivial⟩ (by (exact en)) ?_
  intro i hi
  refine sr<|l_q O (qi O O (b_lss ·))<|lc<|t_seq<|t_if O (fun q => ?_) fun q => ?_
  ·skip
   obtain ⟨g1, g2, g3, g4⟩ := hP.grpAt (g := i) (by omega)
   have hge := goodP.end_le hok0 g1
   have hbd := Lay.bnd hP.hl
   have hes := emp_slots T.cells i
   have hc1 := cnt_le isEmp T.cells (8 * i)
   have hs8 : (slotsF (empS (grpC T.cells i))).length ≤ 8 := by unfold slotsF; exact Nat.le_trans (List.length_filter_le _ _) (by simp)
   refine t_skip<|n_code<|t_seq<|t_block<|sr<|mv O O<|asg O O<|lz<|l_q O (qlda O yA39 yS39) ?_
   refine l_q O (qlda O yA147 yS147) ?_
   refine mv O O<|lc1 O O O (group_ok pa off go i n l hP.hl T _ rfl (by omega)) ?_
   refine lc1 O O O (Word_ok pa (go + i * gN l) s l (grpC T.cells i) hP.hl g1 g2 g3) ?_
   refine mv O O<|l_q O (q_extractL O ga) ?_
   refine l_q O (q_extractL O ga) ?_
   refine asg O O<|asg O O<|lc<|t_seq<|sr<|mv O O<|l_q O (qi O O (b_neq ·))<|lc<|t_if O (fun y => ?_) fun y => ?_
   ·exact absurd rfl y
   ·refine t_skip<|n_code<|t_region<|mv O O<|mv O O<|lc1 O O O (MatchE_ok g3) ?_
    refine lc1 O O O (Count_ok (empS (grpC T.cells i))) ?_
    refine l_q O (qsub O O) ?_
    refine l_q O (qadd O O) ?_
    refine asg O O<|l_nil<|n_blk<|n_code<|t_region<|l_q O (qadd O O) ?_
    refine mv O O<|l_nil ?_
    apply n_again ((i + 1))
    ·exact by omega
    ·omega
    ·exact ⟨rfl, rfl, rfl, congrArg (fun z => some (Value.int .i64 z)) (by rw [hes]; push_cast; omega), rfl, rfl, trivial⟩
    ·exact en
  ·skip
   obtain rfl : i = n := by omega
   have hc1 := cnt_le isEmp T.cells (8 * i)
   refine xt O<|n_code<|t_seq<|t_seq<|t_draw mixed ?_
   apply dq 0 rfl
   ·exact yq (q_move O)
   apply dq 1 rfl
   ·exact yq (qfa 2 rfl yU147 O O yS3)
   apply dq 2 rfl
   ·exact yq (qld O yA3)
   apply dq 3 rfl
   ·exact yq (q_un O (u_neg ·))
   apply dq 4 rfl
   ·exact yq (qi O O (b_lss ·))
   apply dq 5 rfl
   ·exact yq (q_move O)
   rw [hneg]
   refine d_pt (t := 48) rfl (fun p1 => ?_) fun p1 => ?_
   ·apply dq 6 rfl
    ·exact yq_off O O O (by intro k; simp)
    apply dq 7 rfl
    ·exact yq_off O O O (by intro k; simp)
    apply dq 8 rfl
    ·exact yq_off O O O (by intro k; simp)
    apply dq 10 rfl
    ·exact yq_off O O O (by intro k; simp)
    apply dq 12 rfl
    ·exact yq_off O O O (by intro k; simp)
    apply dq 13 rfl
    ·exact yq_off O O O (by intro k; simp)
    refine d_eff1 [8, 5, 7, 4, 0, 3, 2, 1] [13, 12, 10, 6] 9 [(51, _), (48, _)] gO ⟨rfl, rfl, trivial⟩ (by kernel_rfl) (by kernel_rfl) fun Ex => ?_
    refine l_off O O O O<|l_nil ?_
    apply n_d
    ·refine ⟨?_, ?_, ?_, ?_, trivial⟩
     ·apply ya O O; exact yq_off O O O (by intro k; simp)
     ·apply ya O O; exact yq_off O O O (by intro k; simp)
     ·apply ya O O; exact yq_off O O O (by intro k; simp)
     ·apply ya O O; exact yq_off O O O (by intro k; simp)
    apply dq 11 rfl
    ·exact yq_off O O O (by intro k; simp)
    apply dq 14 rfl
    ·exact yq_off O O O (by intro k; simp)
    apply dq 15 rfl
    ·exact yq_off O O O (by intro k; simp)
    apply dq 16 rfl
    ·exact yq (q_pk O O)
    refine d_end (by kernel_rfl) ?_
    exact n_code<|t_cond_t O<|sr<|asg O O<|lc<|rt<|fr1 O ([arenaH pa s]) (.tmp rfl) (.inl ⟨.inl p1, rfl, rfl⟩)
   ·apply dq 6 rfl
    ·exact yq_on O O (q_move O)
    apply dq 7 rfl
    ·exact yq_on O O (qfa 1 rfl yU147 O O yS3)
    apply dq 8 rfl
    ·exact yq_on O O (qld O yA3)
    apply dq 10 rfl
    ·exact yq_on O O (q_move O)
    apply dq 12 rfl
    ·exact yq_on O O (qfa 2 rfl yU147 O O yS3)
    apply dq 13 rfl
    ·exact yq_on O O (qld O yA3)
    refine d_eff1 [8, 5, 7, 4, 0, 3, 2, 1] [13, 12, 10, 6] 9 [(51, _), (48, _)] gO ⟨rfl, rfl, trivial⟩ (by kernel_rfl) (by kernel_rfl) fun Ex => ?_
    refine l_on O O<|lc1 O O O (Most_n hP.he hP.hn) ?_
    refine l_nil ?_
    apply n_d
    ·refine ⟨?_, ?_, ?_, ?_, trivial⟩
     ·apply ya O O; exact yq_on O O (qld O yA3)
     ·apply ya O O; exact yq_on O O (qfa 2 rfl yU147 O O yS3)
     ·apply ya O O; exact yq_on O O (q_move O)
     ·apply ya O O; exact yq_on O O (q_move O)
    apply dq 11 rfl
    ·exact yq_on O O (qsub O O)
    apply dq 14 rfl
    ·exact yq_on O O (qsub O O)
    apply dq 15 rfl
    ·exact yq_on O O (qi O O (b_gtr ·))
    apply dq 16 rfl
    ·exact yq (q_pk O O)
    refine d_end (by kernel_rfl) ?_
    refine n_code<|t_if O (fun p2 => ?_) fun p2 => ?_
    ·refine sr<|asg O O<|lc<|rt<|fr1 O ([arenaH pa s]) (.tmp rfl) ?_
     exact .inl ⟨.inr (by omega), rfl, rfl⟩
    ·skip
     have hw := hP.word (T' := { T with left := T.left + v }) (k := 5) (v := T.left + v) (by decide) (by omega) rfl (head_ne (.inr rfl) (.inr rfl) (.inr rfl) (.inr rfl) (.inl rfl) (.inr rfl)) rfl
     refine t_skip<|nz<|l_q O (qlda O yA39 yS39) ?_
     refine l_q O (qfa 2 rfl yU147 O O yS3)<|l_q O (qld O yA3) ?_
     refine mv O O<|l_q O (qadd O O) ?_
     refine lcf O O O (set_ok pa off 5 s l 40 (T.left + v) rfl (by decide) hP.gh) ?_
     rintro r2 L' rfl
     refine l_nm ?_
     refine lz<|asg O O<|lc<|rt<|fr1 O ([arenaH pa (s.put (off + 8 * 5) 8 (byteN (IntKind.u64.wrap (T.left + v))))]) (.tmp rfl) ?_
     exact .inr ⟨by omega, by omega, _, rfl, rfl, hw.1, hw.2⟩
include hG
theorem Put_elem (h : Int) (hh : 0 ≤ h ∧ h < 18446744073709551616) (key : ByteArray) (hk : key.size = kN l) (elem : ByteArray) (he : (elem.size : Int) ≠ l.elem) (birth : Int) :
  FnOk Tryz.prog 53 #[.agg #[.pointer (some ⟨pa, 0, none⟩), .int .i64 l.key, .int .i64 l.elem, .int .i64 l.ka, .int .i64 l.ea, .int .i64 l.cap, .int .i64 l.eo, .int .i64 l.bo, .int .i64 l.slot, .int .i64 l.group, .int .i64 (off : Nat)], .int .u64 h, .string key, .string elem, .int .i64 birth] [G, arenaH pa s] (fun v L => v = .tuple #[.int .i64 0, .int .i64 62] ∧ L = [G, arenaH pa s]) := by
 refine fn_intro en53 Tryz.func53 rfl rfl rfl fun Fr w0 => t_nm ?_
 refine sr<|o_boxA O O fun b5 => asg O O<|asg O O<|lz<|l_q O (qlda O yA39 yS39) ?_
 refine mv O O<|mv O O<|lc1 O O O (searchP_ok G hG pa off go n e s l T hP h hh key hk) ?_
 refine mv O O<|l_q O (q_extractL O ga) ?_
 refine l_q O (q_extractL O ga) ?_
 refine l_q O (q_extractL O ga) ?_
 refine o_allocA O yZ147 fun b12 => o_allocA O yZ224 fun b13 => sta O O O yS147 O O ?_
 refine sta O O O yS224 O O ?_
 refine asg O O<|lc<|t_seq<|t_block<|sr<|mv O O<|l_q O (qi O O (b_neq ·))<|asg O O<|lc<|t_if O (fun z => ?_) fun z => ?_
 ·exact absurd rfl z
 ·refine sr<|mv O O<|l_q O (qls O yU9)<|l_q O (qfa 1 rfl yU39 O O yS34)<|l_q O (qfa 1 rfl yU34 O O yS3)<|l_q O (qld O yA3) ?_
  refine l_q O (qi O O (b_neq ·))<|asg O O<|lc<|t_if O (fun y => ?_) fun y => ?_
  ·exact sr<|asg O O<|asg O O<|lc<|rt<|fr2 O ([G, arenaH pa s]) (.tmp rfl) (.tmp rfl) ⟨rfl, rfl⟩
  ·exact absurd (by omega) he
theorem Put_birth (h : Int) (hh : 0 ≤ h ∧ h < 18446744073709551616) (key : ByteArray) (hk : key.size = kN l) (elem : ByteArray) (he : elem.size = eN l) (birth : Int) (hb : birth < 0) :
  FnOk Tryz.prog 53 #[.agg #[.pointer (some ⟨pa, 0, none⟩), .int .i64 l.key, .int .i64 l.elem, .int .i64 l.ka, .int .i64 l.ea, .int .i64 l.cap, .int .i64 l.eo, .int .i64 l.bo, .int .i64 l.slot, .int .i64 l.group, .int .i64 (off : Nat)], .int .u64 h, .string key, .string elem, .int .i64 birth] [G, arenaH pa s] (fun v L => v = .tuple #[.int .i64 0, .int .i64 64] ∧ L = [G, arenaH pa s]) := by
 have hN := layN hP.hl
 have hes : (elem.size : Int) = l.elem := by rw [he]; exact hN.e
 refine fn_intro en53 Tryz.func53 rfl rfl rfl fun Fr w0 => t_nm ?_
 refine sr<|o_boxA O O fun b5 => asg O O<|asg O O<|lz<|l_q O (qlda O yA39 yS39) ?_
 refine mv O O<|mv O O<|lc1 O O O (searchP_ok G hG pa off go n e s l T hP h hh key hk) ?_
 refine mv O O<|l_q O (q_extractL O ga) ?_
 refine l_q O (q_extractL O ga) ?_
 refine l_q O (q_extractL O ga) ?_
 refine o_allocA O yZ147 fun b12 => o_allocA O yZ224 fun b13 => sta O O O yS147 O O ?_
 refine sta O O O yS224 O O ?_
 refine asg O O<|lc<|t_seq<|t_block<|sr<|mv O O<|l_q O (qi O O (b_neq ·))<|asg O O<|lc<|t_if O (fun z => ?_) fun z => ?_
 ·exact absurd rfl z
 ·refine sr<|mv O O<|l_q O (qls O yU9)<|l_q O (qfa 1 rfl yU39 O O yS34)<|l_q O (qfa 1 rfl yU34 O O yS3)<|l_q O (qld O yA3) ?_
  refine l_q O (qi O O (b_neq ·))<|asg O O<|lc<|t_if O (fun y => ?_) fun y => ?_
  ·exact absurd hes y
  ·refine sr<|mv O O<|l_q O (qi O O (b_lss ·))<|asg O O<|lc<|t_if O (fun x => ?_) fun x => ?_
   ·exact sr<|asg O O<|asg O O<|lc<|rt<|fr2 O ([G, arenaH pa s]) (.tmp rfl) (.tmp rfl) ⟨rfl, rfl⟩
   ·omega
end
/-- New, where the slots are no such number, or the depth. -/
theorem New_slots (pa : Nat) (vl : Array Value) (slots depth : Int) (hs : -9223372036854775808 ≤ slots ∧ slots ≤ 9223372036854775807) (hb : Probe.powB slots 8 65536 = false) :
  FnOk Tryz.prog 52 #[.pointer (some ⟨pa, 0, none⟩), .agg vl, .int .i64 slots, .int .i64 depth] [] (fun v L => v = .tuple #[.agg #[.pointer none, .int .i64 0, .int .i64 0, .int .i64 0, .int .i64 0, .int .i64 0, .int .i64 0, .int .i64 0, .int .i64 0, .int .i64 0, .int .i64 0], .int .i64 80] ∧ L = []) := by
 refine fn_intro en52 Tryz.func52 rfl rfl rfl fun Fr w0 => t_nm ?_
 refine sr<|o_boxA O O fun b5 => o_allocA O yZ39 fun b8 => asg O O<|lc<|t_seq<|sr<|mv O O<|l_q O (qi O O (b_lss ·))<|mv O O<|l_pt (t := 17) rfl (fun p1 => ?_) fun p1 => ?_
 ·refine l_off O O O O<|l_off O O O O<|l_q O (q_pk O O)<|mv O O<|l_off O O O O<|l_off O O O O<|l_off O O O O<|l_off O O O O<|l_off O O O O<|l_q O (q_pk O O)<|lc<|t_cond_t O<|sr ?_
  apply l_q O
  ·apply q_buildS O yP39 yZ39
   ·exact FillR.nil
  refine sta O O O yS39 O O ?_
  refine asg O O<|lc<|rt ?_
  apply f_ret (.inl rfl) ([])
  ·apply res2 O
   ·apply Rv.agg rfl
    ·exact tk
    ·exact run_loadAll yA39 yS39 O
   ·exact .tmp rfl
  ·exact ⟨rfl, rfl⟩
  ·exact en
 ·refine l_on O O<|mv O O<|l_on O O<|l_q O (qi O O (b_gtr ·))<|l_q O (q_pk O O)<|mv O O<|l_pt (t := 21) rfl (fun p2 => ?_) fun p2 => ?_
  ·refine l_off O O O O<|l_off O O O O<|l_off O O O O<|l_off O O O O<|l_off O O O O<|l_q O (q_pk O O)<|lc<|t_cond_t O<|sr ?_
   apply l_q O
   ·apply q_buildS O yP39 yZ39
    ·exact FillR.nil
   refine sta O O O yS39 O O ?_
   refine asg O O<|lc<|rt ?_
   apply f_ret (.inl rfl) ([])
   ·apply res2 O
    ·apply Rv.agg rfl
     ·exact tk
     ·exact run_loadAll yA39 yS39 O
    ·exact .tmp rfl
   ·exact ⟨rfl, rfl⟩
   ·exact en
  ·refine l_on O O<|mv O O<|l_on O O<|mv O O<|l_on O O<|l_q O (qsub O O) ?_
   refine l_on O O<|l_q O (qbit O O O)<|l_on O O<|l_q O (qi O O (b_neq ·))<|l_q O (q_pk O O)<|lc<|t_if O (fun p3 => ?_) fun p3 => ?_
   ·refine sr ?_
    apply l_q O
    ·apply q_buildS O yP39 yZ39
     ·exact FillR.nil
    refine sta O O O yS39 O O ?_
    refine asg O O<|lc<|rt ?_
    apply f_ret (.inl rfl) ([])
    ·apply res2 O
     ·apply Rv.agg rfl
      ·exact tk
      ·exact run_loadAll yA39 yS39 O
     ·exact .tmp rfl
    ·exact ⟨rfl, rfl⟩
    ·exact en
   ·skip
    exfalso
    have e3 := Probe.pow2_eq (n := slots) (by omega) (by omega)
    rw [show Probe.powB slots 8 65536 = true by
     unfold Probe.powB
     rw [← e3]
     simp
     omega] at hb
    cases hb
theorem New_depth (pa : Nat) (vl : Array Value) (slots depth : Int) (hp : Probe.powB slots 8 65536 = true) (hd : depth < 0 ∨ 6 < depth) :
  FnOk Tryz.prog 52 #[.pointer (some ⟨pa, 0, none⟩), .agg vl, .int .i64 slots, .int .i64 depth] [] (fun v L => v = .tuple #[.agg #[.pointer none, .int .i64 0, .int .i64 0, .int .i64 0, .int .i64 0, .int .i64 0, .int .i64 0, .int .i64 0, .int .i64 0, .int .i64 0, .int .i64 0], .int .i64 81] ∧ L = []) := by
 have hp8 := hp
 simp only [Probe.powB, Bool.and_eq_true, decide_eq_true_eq] at hp8
 have hbit : bits .and .i64 slots (slots - 1) = 0 := by
  have := Probe.pow2_eq (n := slots) (by omega) (by omega)
  rw [hp8.2] at this
  exact of_decide_eq_true this
 refine fn_intro en52 Tryz.func52 rfl rfl rfl fun Fr w0 => t_nm ?_
 refine sr<|o_boxA O O fun b5 => o_allocA O yZ39 fun b8 => asg O O<|lc<|t_seq<|sr<|mv O O<|l_q O (qi O O (b_lss ·))<|mv O O<|l_pt (t := 17) rfl (fun p1 => ?_) fun p1 => ?_
 ·omega
 ·refine l_on O O<|mv O O<|l_on O O<|l_q O (qi O O (b_gtr ·))<|l_q O (q_pk O O)<|mv O O<|l_pt (t := 21) rfl (fun p2 => ?_) fun p2 => ?_
  ·omega
  ·refine l_on O O<|mv O O<|l_on O O<|mv O O<|l_on O O<|l_q O (qsub O O) ?_
   refine l_on O O<|l_q O (qbit O O O)<|l_on O O<|l_q O (qi O O (b_neq ·))<|l_q O (q_pk O O)<|lc<|t_if O (fun p3 => ?_) fun p3 => ?_
   ·omega
   ·refine t_skip<|n_code<|t_seq<|sr<|mv O O<|l_q O (qi O O (b_lss ·))<|mv O O<|l_pt (t := 31) rfl (fun d1 => ?_) fun d1 => ?_
    ·refine l_off O O O O<|l_off O O O O<|l_q O (q_pk O O)<|lc<|t_cond_t O<|sr ?_
     apply l_q O
     ·apply q_buildS O yP39 yZ39
      ·exact FillR.nil
     refine sta O O O yS39 O O ?_
     refine asg O O<|lc<|rt ?_
     apply f_ret (.inl rfl) ([])
     ·apply res2 O
      ·apply Rv.agg rfl
       ·exact tk
       ·exact run_loadAll yA39 yS39 O
      ·exact .tmp rfl
     ·exact ⟨rfl, rfl⟩
     ·exact en
    ·refine l_on O O<|mv O O<|l_on O O<|l_q O (qi O O (b_gtr ·))<|l_q O (q_pk O O)<|lc<|t_if O (fun d2 => ?_) fun d2 => ?_
     ·refine sr ?_
      apply l_q O
      ·apply q_buildS O yP39 yZ39
       ·exact FillR.nil
      refine sta O O O yS39 O O ?_
      refine asg O O<|lc<|rt ?_
      apply f_ret (.inl rfl) ([])
      ·apply res2 O
       ·apply Rv.agg rfl
        ·exact tk
        ·exact run_loadAll yA39 yS39 O
       ·exact .tmp rfl
      ·exact ⟨rfl, rfl⟩
      ·exact en
     ·omega
end Go.Proofs.YthkajgkagnenbaaGreatDoor.Table
