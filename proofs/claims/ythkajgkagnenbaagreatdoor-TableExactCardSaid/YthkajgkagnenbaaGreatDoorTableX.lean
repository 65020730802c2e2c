import Derived.Test.YthkajgkagnenbaaGreatDoorTableW
import Derived.Test.YthkajgkagnenbaaGreatDoorPruneT
import Derived.Test.YthkajgkagnenbaaGreatDoorTableN
/- Further answers of a table: to keys of a wrong width, slots that are not there, numbers out of range. -/
set_option linter.unusedVariables false
set_option linter.unusedSimpArgs false
set_option maxRecDepth 100000
namespace Go.Proofs.YthkajgkagnenbaaGreatDoor.Table
open Go.RowKit Go.Proofs Go.Proofs.YthkajgkagnenbaaGreatDoor.Eng Go.Proofs.YthkajgkagnenbaaGreatDoor.Ty Go.Proofs.YthkajgkagnenbaaGreatDoor.Bits Go.Proofs.YthkajgkagnenbaaGreatDoor.Mem Go.Proofs.YthkajgkagnenbaaGreatDoor.Search Go.Proofs.YthkajgkagnenbaaGreatDoor.Arena Go.Proofs.YthkajgkagnenbaaGreatDoor.CtrlB Go.Proofs.YthkajgkagnenbaaGreatDoor.Ctrl Go.Proofs.YthkajgkagnenbaaGreatDoor.Layout Go.Proofs.YthkajgkagnenbaaGreatDoor.GroupB Go.Proofs.YthkajgkagnenbaaGreatDoor.Group Go.Proofs.YthkajgkagnenbaaGreatDoor.Probe Go.Proofs.YthkajgkagnenbaaGreatDoor.TableB Go.Proofs.YthkajgkagnenbaaGreatDoor.TableI

section
variable (G : HP) (hG : TabOk G) (pa off go n e : Nat) (s : ArS) (l : Lay) (T : Tb) (hP : TabP s off go l n e T)
include hP
section
variable (h : Int) (key : ByteArray) (hk : (key.size : Int) ≠ l.key)
include hk
theorem search_bad : FnOk Tryz.prog 135 #[.agg #[.pointer (some ⟨pa, 0, none⟩), .int .i64 l.key, .int .i64 l.elem, .int .i64 l.ka, .int .i64 l.ea, .int .i64 l.cap, .int .i64 l.eo, .int .i64 l.bo, .int .i64 l.slot, .int .i64 l.group, .int .i64 (off : Nat)], .int .u64 h, .string key] [arenaH pa s] (fun v L => v = .tuple #[.agg #[.int .i64 T.used, .int .i64 (8 * (n : Int)), .int .i64 T.left, .int .i64 T.depth, .int .i64 T.pins, .int .i64 T.next, .bool (decide (T.kind = 4)), .int .i64 (go : Nat)], .agg #[.int .i64 0, .int .i64 0, .bool false, .int .i64 0], .int .i64 61] ∧ L = [arenaH pa s]) := by
 refine fn_intro en135 Tryz.func135 rfl rfl rfl fun Fr w0 => t_nm ?_
 refine sr <| o_boxA rfl rfl fun b3 => o_box1 rfl rfl rfl fun b4 => o_box1 rfl rfl rfl fun b5 => o_allocA rfl yZ147 fun b6 => o_allocA rfl yZ224 fun b7 => o_alloc1 rfl yZ77 rfl fun b8 => lc <| t_scope <| sr <| l_q rfl (qlda rfl yA39 yS39) ?_
 refine lc1 rfl rfl rfl (StatP_ok pa off go n e s l T hP) ?_
 refine mv rfl rfl <| l_q rfl (q_extractL rfl ga) ?_
 refine l_q rfl (q_extractL rfl ga) ?_
 refine o_allocA rfl yZ147 fun b9 => sta rfl rfl rfl yS147 rfl rfl ?_
 refine asg rfl rfl <| lc <| t_seq <| sr <| mv rfl rfl <| l_q rfl (qi rfl rfl (b_neq ·)) <| lc <| t_if rfl (fun z => ?_) fun z => ?_
 ·exact absurd rfl z
 ·refine t_skip <| n_code <| t_seq <| sr <| l_q rfl (qld rfl yA9) ?_
  refine l_q rfl (qls rfl yU9) <| l_q rfl (qfa 1 rfl yU39 rfl rfl yS34) <| l_q rfl (qfa 0 rfl yU34 rfl rfl yS3) <| l_q rfl (qld rfl yA3) ?_
  refine l_q rfl (qi rfl rfl (b_neq ·)) <| lc <| t_if rfl (fun y => ?_) fun y => ?_
  ·refine sr <| l_q rfl (qlda rfl yA147 yS147) ?_
   apply l_q rfl
   ·apply q_buildS rfl yP224 yZ224
    ·exact FillR.nil
   refine sta rfl rfl rfl yS147 rfl rfl ?_
   refine sta rfl rfl rfl yS224 rfl rfl ?_
   refine st rfl rfl rfl yS77 rfl ?_
   refine lc <| rt ?_
   apply f_ret (.inl rfl) ([arenaH pa s])
   ·apply res3 rfl
    ·apply Rv.agg rfl
     ·exact tk
     ·exact run_loadAll yA147 yS147 rfl
    ·apply Rv.agg rfl
     ·exact tk
     ·exact run_loadAll yA224 yS224 rfl
    ·apply Rv.cellL rfl
     ·exact tk
     ·exact ga
     ·exact yA77
   ·exact ⟨rfl, rfl⟩
   ·exact en
  ·exact absurd (by omega) hk
theorem Find_bad : FnOk Tryz.prog 75 #[.agg #[.pointer (some ⟨pa, 0, none⟩), .int .i64 l.key, .int .i64 l.elem, .int .i64 l.ka, .int .i64 l.ea, .int .i64 l.cap, .int .i64 l.eo, .int .i64 l.bo, .int .i64 l.slot, .int .i64 l.group, .int .i64 (off : Nat)], .int .u64 h, .string key] [arenaH pa s] (fun v L => v = .tuple #[.int .i64 0, .int .i64 61] ∧ L = [arenaH pa s]) := by
 refine fn_intro en75 Tryz.func75 rfl rfl rfl fun Fr w0 => t_nm ?_
 refine sr <| o_boxA rfl rfl fun b3 => asg rfl rfl <| asg rfl rfl <| lz <| l_q rfl (qlda rfl yA39 yS39) ?_
 refine mv rfl rfl <| mv rfl rfl <| lc1 rfl rfl rfl (search_bad pa off go n e s l T hP h key hk) ?_
 refine mv rfl rfl <| l_q rfl (q_extractL rfl ga) ?_
 refine l_q rfl (q_extractL rfl ga) ?_
 refine l_q rfl (q_extractL rfl ga) ?_
 refine o_allocA rfl yZ147 fun b8 => o_allocA rfl yZ224 fun b9 => sta rfl rfl rfl yS147 rfl rfl ?_
 refine sta rfl rfl rfl yS224 rfl rfl ?_
 refine asg rfl rfl <| lz <| l_q rfl (qfa 0 rfl yU224 rfl rfl yS3) <| l_q rfl (qld rfl yA3) ?_
 exact mv rfl rfl <| asg rfl rfl <| asg rfl rfl <| lc <| rt <| fr2 rfl ([arenaH pa s]) (.tmp rfl) (.tmp rfl) ⟨rfl, rfl⟩
theorem Probes_bad : FnOk Tryz.prog 79 #[.agg #[.pointer (some ⟨pa, 0, none⟩), .int .i64 l.key, .int .i64 l.elem, .int .i64 l.ka, .int .i64 l.ea, .int .i64 l.cap, .int .i64 l.eo, .int .i64 l.bo, .int .i64 l.slot, .int .i64 l.group, .int .i64 (off : Nat)], .int .u64 h, .string key] [arenaH pa s] (fun v L => v = .tuple #[.int .i64 0, .int .i64 61] ∧ L = [arenaH pa s]) := by
 refine fn_intro en79 Tryz.func79 rfl rfl rfl fun Fr w0 => t_nm ?_
 refine sr <| o_boxA rfl rfl fun b3 => asg rfl rfl <| asg rfl rfl <| lz <| l_q rfl (qlda rfl yA39 yS39) ?_
 refine mv rfl rfl <| mv rfl rfl <| lc1 rfl rfl rfl (search_bad pa off go n e s l T hP h key hk) ?_
 refine mv rfl rfl <| l_q rfl (q_extractL rfl ga) ?_
 refine l_q rfl (q_extractL rfl ga) ?_
 refine l_q rfl (q_extractL rfl ga) ?_
 refine o_allocA rfl yZ147 fun b8 => o_allocA rfl yZ224 fun b9 => sta rfl rfl rfl yS147 rfl rfl ?_
 refine sta rfl rfl rfl yS224 rfl rfl ?_
 refine asg rfl rfl <| lz <| l_q rfl (qfa 3 rfl yU224 rfl rfl yS3) <| l_q rfl (qld rfl yA3) ?_
 exact mv rfl rfl <| asg rfl rfl <| asg rfl rfl <| lc <| rt <| fr2 rfl ([arenaH pa s]) (.tmp rfl) (.tmp rfl) ⟨rfl, rfl⟩
theorem Get_bad : FnOk Tryz.prog 77 #[.agg #[.pointer (some ⟨pa, 0, none⟩), .int .i64 l.key, .int .i64 l.elem, .int .i64 l.ka, .int .i64 l.ea, .int .i64 l.cap, .int .i64 l.eo, .int .i64 l.bo, .int .i64 l.slot, .int .i64 l.group, .int .i64 (off : Nat)], .int .u64 h, .string key] [arenaH pa s] (fun v L => v = .tuple #[.agg #[.int .i64 0, .int .i64 0, .string ⟨#[]⟩, .string ⟨#[]⟩, .int .i64 0], .int .i64 61] ∧ L = [arenaH pa s]) := by
 refine fn_intro en77 Tryz.func77 rfl rfl rfl fun Fr w0 => t_nm ?_
 refine sr <| o_boxA rfl rfl fun b3 => o_allocA rfl yZ142 fun b6 => asg rfl rfl <| lz <| l_q rfl (qlda rfl yA39 yS39) ?_
 refine mv rfl rfl <| mv rfl rfl <| lc1 rfl rfl rfl (search_bad pa off go n e s l T hP h key hk) ?_
 refine mv rfl rfl <| l_q rfl (q_extractL rfl ga) ?_
 refine l_q rfl (q_extractL rfl ga) ?_
 refine l_q rfl (q_extractL rfl ga) ?_
 refine o_allocA rfl yZ147 fun b8 => o_allocA rfl yZ224 fun b9 => sta rfl rfl rfl yS147 rfl rfl ?_
 refine sta rfl rfl rfl yS224 rfl rfl ?_
 refine asg rfl rfl <| lc <| t_seq <| sr <| mv rfl rfl <| l_q rfl (qi rfl rfl (b_neq ·)) <| mv rfl rfl <| l_pt (t := 21) rfl (fun z => ?_) fun z => ?_
 ·refine l_off rfl rfl rfl rfl <| l_off rfl rfl rfl rfl <| l_off rfl rfl rfl rfl <| l_q rfl (q_pk rfl rfl) <| lc <| t_cond_t rfl <| sr ?_
  apply l_q rfl
  ·apply q_buildS rfl yP142 yZ142
   ·exact FillR.nil
  refine mv rfl rfl <| sta rfl rfl rfl yS142 rfl rfl ?_
  refine asg rfl rfl <| lc <| rt ?_
  apply f_ret (.inl rfl) ([arenaH pa s])
  ·apply res2 rfl
   ·apply Rv.agg rfl
    ·exact tk
    ·exact run_loadAll yA142 yS142 rfl
   ·exact .tmp rfl
  ·exact ⟨rfl, rfl⟩
  ·exact en
 ·exact absurd z (by decide)
theorem Put_bad (elem : ByteArray) (birth : Int) : FnOk Tryz.prog 53 #[.agg #[.pointer (some ⟨pa, 0, none⟩), .int .i64 l.key, .int .i64 l.elem, .int .i64 l.ka, .int .i64 l.ea, .int .i64 l.cap, .int .i64 l.eo, .int .i64 l.bo, .int .i64 l.slot, .int .i64 l.group, .int .i64 (off : Nat)], .int .u64 h, .string key, .string elem, .int .i64 birth] [arenaH pa s] (fun v L => v = .tuple #[.int .i64 0, .int .i64 61] ∧ L = [arenaH pa s]) := by
 refine fn_intro en53 Tryz.func53 rfl rfl rfl fun Fr w0 => t_nm ?_
 refine sr <| o_boxA rfl rfl fun b5 => asg rfl rfl <| asg rfl rfl <| lz <| l_q rfl (qlda rfl yA39 yS39) ?_
 refine mv rfl rfl <| mv rfl rfl <| lc1 rfl rfl rfl (search_bad pa off go n e s l T hP h key hk) ?_
 refine mv rfl rfl <| l_q rfl (q_extractL rfl ga) ?_
 refine l_q rfl (q_extractL rfl ga) ?_
 refine l_q rfl (q_extractL rfl ga) ?_
 refine o_allocA rfl yZ147 fun b12 => o_allocA rfl yZ224 fun b13 => sta rfl rfl rfl yS147 rfl rfl ?_
 refine sta rfl rfl rfl yS224 rfl rfl ?_
 refine asg rfl rfl <| lc <| t_seq <| t_block <| sr <| mv rfl rfl <| l_q rfl (qi rfl rfl (b_neq ·)) <| asg rfl rfl <| lc <| t_if rfl (fun z => ?_) fun z => ?_
 ·exact sr <| mv rfl rfl <| asg rfl rfl <| asg rfl rfl <| lc <| rt <| fr2 rfl ([arenaH pa s]) (.tmp rfl) (.tmp rfl) ⟨rfl, rfl⟩
 ·exact absurd z (by decide)
theorem Delete_bad : FnOk Tryz.prog 82 #[.agg #[.pointer (some ⟨pa, 0, none⟩), .int .i64 l.key, .int .i64 l.elem, .int .i64 l.ka, .int .i64 l.ea, .int .i64 l.cap, .int .i64 l.eo, .int .i64 l.bo, .int .i64 l.slot, .int .i64 l.group, .int .i64 (off : Nat)], .int .u64 h, .string key] [arenaH pa s] (fun v L => v = .tuple #[.bool false, .int .i64 61] ∧ L = [arenaH pa s]) := by
 refine fn_intro en82 Tryz.func82 rfl rfl rfl fun Fr w0 => t_nm ?_
 refine sr <| o_boxA rfl rfl fun b3 => asg rfl rfl <| asg rfl rfl <| lz <| l_q rfl (qlda rfl yA39 yS39) ?_
 refine mv rfl rfl <| mv rfl rfl <| lc1 rfl rfl rfl (search_bad pa off go n e s l T hP h key hk) ?_
 refine mv rfl rfl <| l_q rfl (q_extractL rfl ga) ?_
 refine l_q rfl (q_extractL rfl ga) ?_
 refine l_q rfl (q_extractL rfl ga) ?_
 refine o_allocA rfl yZ147 fun b8 => o_allocA rfl yZ224 fun b9 => sta rfl rfl rfl yS147 rfl rfl ?_
 refine sta rfl rfl rfl yS224 rfl rfl ?_
 refine asg rfl rfl <| lc <| t_seq <| sr <| mv rfl rfl <| l_q rfl (qi rfl rfl (b_neq ·)) <| mv rfl rfl <| l_pt (t := 25) rfl (fun z => ?_) fun z => ?_
 ·exact l_off rfl rfl rfl rfl <| l_off rfl rfl rfl rfl <| l_off rfl rfl rfl rfl <| l_q rfl (q_pk rfl rfl) <| lc <| t_cond_t rfl <| sr <| mv rfl rfl <| asg rfl rfl <| asg rfl rfl <| lc <| rt <| fr2 rfl ([arenaH pa s]) (.tmp rfl) (.tmp rfl) ⟨rfl, rfl⟩
 ·exact absurd z (by decide)
end
theorem Cell_bad (k : Int) (hk : k < 0 ∨ 8 * (n : Int) ≤ k) : FnOk Tryz.prog 56 #[.agg #[.pointer (some ⟨pa, 0, none⟩), .int .i64 l.key, .int .i64 l.elem, .int .i64 l.ka, .int .i64 l.ea, .int .i64 l.cap, .int .i64 l.eo, .int .i64 l.bo, .int .i64 l.slot, .int .i64 l.group, .int .i64 (off : Nat)], .int .i64 k] [arenaH pa s] (fun v L => v = .tuple #[.agg #[.int .i64 0, .int .i64 0, .string ⟨#[]⟩, .string ⟨#[]⟩, .int .i64 0], .int .i64 60] ∧ L = [arenaH pa s]) := by
 have hn8 := hP.n0
 refine fn_intro en56 Tryz.func56 rfl rfl rfl fun Fr w0 => t_nm ?_
 refine sr <| o_boxA rfl rfl fun b2 => o_allocA rfl yZ142 fun b4 => asg rfl rfl <| lz <| l_q rfl (qlda rfl yA39 yS39) ?_
 refine lc1 rfl rfl rfl (StatP_ok pa off go n e s l T hP) ?_
 refine mv rfl rfl <| l_q rfl (q_extractL rfl ga) ?_
 refine l_q rfl (q_extractL rfl ga) ?_
 refine o_allocA rfl yZ147 fun b6 => sta rfl rfl rfl yS147 rfl rfl ?_
 refine asg rfl rfl <| lc <| t_seq <| sr <| mv rfl rfl <| l_q rfl (qi rfl rfl (b_neq ·)) <| lc <| t_if rfl (fun z => ?_) fun z => ?_
 ·exact absurd rfl z
 ·refine t_skip <| n_code <| t_seq <| sr <| mv rfl rfl <| l_q rfl (qi rfl rfl (b_lss ·)) <| mv rfl rfl <| l_pt (t := 19) rfl (fun y1 => ?_) fun y1 => ?_
  ·refine l_off rfl rfl rfl rfl <| l_off rfl rfl rfl rfl <| l_off rfl rfl rfl rfl <| l_off rfl rfl rfl rfl <| l_q rfl (q_pk rfl rfl) <| lc <| t_cond_t rfl <| sr ?_
   apply l_q rfl
   ·apply q_buildS rfl yP142 yZ142
    ·exact FillR.nil
   refine sta rfl rfl rfl yS142 rfl rfl ?_
   refine asg rfl rfl <| lc <| rt ?_
   apply f_ret (.inl rfl) ([arenaH pa s])
   ·apply res2 rfl
    ·apply Rv.agg rfl
     ·exact tk
     ·exact run_loadAll yA142 yS142 rfl
    ·exact .tmp rfl
   ·exact ⟨rfl, rfl⟩
   ·exact en
  ·refine l_on rfl rfl <| mv rfl rfl <| l_on rfl rfl <| l_q rfl (qfa 1 rfl yU147 rfl rfl yS3) <| l_on rfl rfl <| l_q rfl (qld rfl yA3) ?_
   refine l_on rfl rfl <| l_q rfl (qi rfl rfl (b_geq ·)) <| l_q rfl (q_pk rfl rfl) <| lc <| t_if rfl (fun y2 => ?_) fun y2 => ?_
   ·refine sr ?_
    apply l_q rfl
    ·apply q_buildS rfl yP142 yZ142
     ·exact FillR.nil
    refine sta rfl rfl rfl yS142 rfl rfl ?_
    refine asg rfl rfl <| lc <| rt ?_
    apply f_ret (.inl rfl) ([arenaH pa s])
    ·apply res2 rfl
     ·apply Rv.agg rfl
      ·exact tk
      ·exact run_loadAll yA142 yS142 rfl
     ·exact .tmp rfl
    ·exact ⟨rfl, rfl⟩
    ·exact en
   ·omega
theorem Group_bad (k : Int) (hk : k < 0 ∨ (n : Int) ≤ k) : FnOk Tryz.prog 96 #[.agg #[.pointer (some ⟨pa, 0, none⟩), .int .i64 l.key, .int .i64 l.elem, .int .i64 l.ka, .int .i64 l.ea, .int .i64 l.cap, .int .i64 l.eo, .int .i64 l.bo, .int .i64 l.slot, .int .i64 l.group, .int .i64 (off : Nat)], .int .i64 k] [arenaH pa s] (fun v L => v = .tuple #[.agg #[.pointer none, .int .i64 0, .int .i64 0, .int .i64 0, .int .i64 0, .int .i64 0, .int .i64 0, .int .i64 0, .int .i64 0, .int .i64 0, .int .i64 0], .int .i64 60] ∧ L = [arenaH pa s]) := by
 have hn8 := hP.n0
 refine fn_intro en96 Tryz.func96 rfl rfl rfl fun Fr w0 => t_nm ?_
 refine sr <| o_boxA rfl rfl fun b2 => o_allocA rfl yZ182 fun b4 => asg rfl rfl <| lz <| l_q rfl (qlda rfl yA39 yS39) ?_
 refine lc1 rfl rfl rfl (StatP_ok pa off go n e s l T hP) ?_
 refine mv rfl rfl <| l_q rfl (q_extractL rfl ga) ?_
 refine l_q rfl (q_extractL rfl ga) ?_
 refine o_allocA rfl yZ147 fun b6 => sta rfl rfl rfl yS147 rfl rfl ?_
 refine asg rfl rfl <| lc <| t_seq <| sr <| mv rfl rfl <| l_q rfl (qi rfl rfl (b_neq ·)) <| lc <| t_if rfl (fun z => ?_) fun z => ?_
 ·exact absurd rfl z
 ·refine t_skip <| n_code <| t_seq <| sr <| mv rfl rfl <| l_q rfl (qi rfl rfl (b_lss ·)) <| mv rfl rfl <| l_pt (t := 19) rfl (fun y1 => ?_) fun y1 => ?_
  ·refine l_off rfl rfl rfl rfl <| l_off rfl rfl rfl rfl <| l_off rfl rfl rfl rfl <| l_off rfl rfl rfl rfl <| l_off rfl rfl rfl rfl <| l_q rfl (q_pk rfl rfl) <| lc <| t_cond_t rfl <| sr ?_
   apply l_q rfl
   ·apply q_buildS rfl yP182 yZ182
    ·exact FillR.nil
   refine sta rfl rfl rfl yS182 rfl rfl ?_
   refine asg rfl rfl <| lc <| rt ?_
   apply f_ret (.inl rfl) ([arenaH pa s])
   ·apply res2 rfl
    ·apply Rv.agg rfl
     ·exact tk
     ·exact run_loadAll yA182 yS182 rfl
    ·exact .tmp rfl
   ·exact ⟨rfl, rfl⟩
   ·exact en
  ·refine l_on rfl rfl <| mv rfl rfl <| l_on rfl rfl <| l_q rfl (qfa 1 rfl yU147 rfl rfl yS3) <| l_on rfl rfl <| l_q rfl (qld rfl yA3) ?_
   refine l_on rfl rfl <| l_q rfl (qquo rfl rfl) ?_
   refine l_on rfl rfl <| l_q rfl (qi rfl rfl (b_geq ·)) <| l_q rfl (q_pk rfl rfl) <| lc <| t_if rfl (fun y2 => ?_) fun y2 => ?_
   ·refine sr ?_
    apply l_q rfl
    ·apply q_buildS rfl yP182 yZ182
     ·exact FillR.nil
    refine sta rfl rfl rfl yS182 rfl rfl ?_
    refine asg rfl rfl <| lc <| rt ?_
    apply f_ret (.inl rfl) ([arenaH pa s])
    ·apply res2 rfl
     ·apply Rv.agg rfl
      ·exact tk
      ·exact run_loadAll yA182 yS182 rfl
     ·exact .tmp rfl
    ·exact ⟨rfl, rfl⟩
    ·exact en
   ·omega
theorem AddLeft_all (v : Int) (hv : -9223372036854775808 ≤ v ∧ v ≤ 9223372036854775807) (hl : 0 ≤ T.left ∧ T.left ≤ 1099511627776) :
  FnOk Tryz.prog 84 #[.agg #[.pointer (some ⟨pa, 0, none⟩), .int .i64 l.key, .int .i64 l.elem, .int .i64 l.ka, .int .i64 l.ea, .int .i64 l.cap, .int .i64 l.eo, .int .i64 l.bo, .int .i64 l.slot, .int .i64 l.group, .int .i64 (off : Nat)], .int .i64 v] [arenaH pa s] (fun r L =>
   ((v < -T.left ∨ 7 * (n : Int) - ((cnt isFull T.cells (8 * n) : Nat) : Int) - ((cnt isDel T.cells (8 * n) : Nat) : Int) - T.left < v) ∧ r = .int .i64 82 ∧ L = [arenaH pa s]) ∨
   (-T.left ≤ v ∧ v ≤ 7 * (n : Int) - ((cnt isFull T.cells (8 * n) : Nat) : Int) - ((cnt isDel T.cells (8 * n) : Nat) : Int) - T.left ∧ ∃ s', r = .int .i64 0 ∧ L = [arenaH pa s'] ∧ TabP s' off go l n e { T with left := T.left + v } ∧ SameBut s s' off go (n * gN l))) := by
 have hn8 := hP.n0
 have h3 := cnt_three T.cells (8 * n)
 have hneg : IntKind.i64.wrap (0 - T.left) = -T.left := by rw [wrap_i64 (by omega)]; omega
 refine fn_intro en84 Tryz.func84 rfl rfl rfl fun Fr w0 => t_nm ?_
 refine t_pure (φ := s.ok) (fun w hw => arena_ok hw .here) fun hok0 => ?_
 have hst0 := hok0.stop_eq
 refine sr <| o_boxA rfl rfl fun b2 => asg rfl rfl <| lz <| l_q rfl (qlda rfl yA39 yS39) ?_
 refine lc1 rfl rfl rfl (StatP_ok pa off go n e s l T hP) ?_
 refine mv rfl rfl <| l_q rfl (q_extractL rfl ga) ?_
 refine l_q rfl (q_extractL rfl ga) ?_
 refine o_allocA rfl yZ147 fun b5 => sta rfl rfl rfl yS147 rfl rfl ?_
 refine asg rfl rfl <| lc <| t_seq <| sr <| mv rfl rfl <| l_q rfl (qi rfl rfl (b_neq ·)) <| lc <| t_if rfl (fun z => ?_) fun z => ?_
 ·exact absurd rfl z
 ·refine t_skip <| nz <| asg rfl rfl <| lc <| t_seq <| sr <| l_q rfl (qfa 1 rfl yU147 rfl rfl yS3) <| l_q rfl (qld rfl yA3) ?_
  refine l_q rfl (qquo rfl rfl) ?_
  refine mv rfl rfl <| lc <| t_block ?_
  rw [show (8 * (n : Int)) / 8 = ((n : Nat) : Int) by omega]
  refine t_loop (fun i : Nat => i ≤ n) (fun i => [(1, .int .i64 v), (2, .pointer (some ⟨b2, 0, none⟩)), (5, .pointer (some ⟨b5, 0, none⟩)), (7, .int .i64 (8 * (i : Int) - ((cnt isEmp T.cells (8 * i) : Nat) : Int))), (21, .int .i64 (n : Nat)), (22, .int .i64 (i : Nat))]) (fun _ => pt b5 (.cells #[.int .i64 T.used, .int .i64 (8 * (n : Int)), .int .i64 T.left, .int .i64 T.depth, .int .i64 T.pins, .int .i64 T.next, .bool (decide (T.kind = 4)), .int .i64 (go : Nat)] 147 (0, 0)) :: pt b2 (.cells #[.pointer (some ⟨pa, 0, none⟩), .int .i64 l.key, .int .i64 l.elem, .int .i64 l.ka, .int .i64 l.ea, .int .i64 l.cap, .int .i64 l.eo, .int .i64 l.bo, .int .i64 l.slot, .int .i64 l.group, .int .i64 (off : Nat)] 39 (0, 0)) :: arenaH pa s :: Fr) (fun i => n - i) 0 (Nat.zero_le _) ⟨rfl, rfl, rfl, rfl, rfl, rfl, trivial⟩ (by (exact en)) ?_
  intro i hi
  refine sr <| l_q rfl (qi rfl rfl (b_lss ·)) <| lc <| t_seq <| t_if rfl (fun q => ?_) fun q => ?_
  ·skip
   obtain ⟨g1, g2, g3, g4⟩ := hP.grpAt (g := i) (by omega)
   have hge := goodP.end_le hok0 g1
   have hbd := Lay.bnd hP.hl
   have hes := emp_slots T.cells i
   have hc1 := cnt_le isEmp T.cells (8 * i)
   have hs8 : (slotsF (empS (grpC T.cells i))).length ≤ 8 := by unfold slotsF; exact Nat.le_trans (List.length_filter_le _ _) (by simp)
   refine t_skip <| n_code <| t_seq <| t_block <| sr <| mv rfl rfl <| asg rfl rfl <| lz <| l_q rfl (qlda rfl yA39 yS39) ?_
   refine l_q rfl (qlda rfl yA147 yS147) ?_
   refine mv rfl rfl <| lc1 rfl rfl rfl (group_ok pa off go i n l hP.hl T _ rfl (by omega)) ?_
   refine lc1 rfl rfl rfl (Word_ok pa (go + i * gN l) s l (grpC T.cells i) hP.hl g1 g2 g3) ?_
   refine mv rfl rfl <| l_q rfl (q_extractL rfl ga) ?_
   refine l_q rfl (q_extractL rfl ga) ?_
   refine asg rfl rfl <| asg rfl rfl <| lc <| t_seq <| sr <| mv rfl rfl <| l_q rfl (qi rfl rfl (b_neq ·)) <| lc <| t_if rfl (fun y => ?_) fun y => ?_
   ·exact absurd rfl y
   ·refine t_skip <| n_code <| t_region <| mv rfl rfl <| mv rfl rfl <| lc1 rfl rfl rfl (MatchE_ok g3) ?_
    refine lc1 rfl rfl rfl (Count_ok (empS (grpC T.cells i))) ?_
    refine l_q rfl (qsub rfl rfl) ?_
    refine l_q rfl (qadd rfl rfl) ?_
    refine asg rfl rfl <| l_nil <| n_blk <| n_code <| t_region <| l_q rfl (qadd rfl rfl) ?_
    refine mv rfl rfl <| l_nil ?_
    apply n_again ((i + 1))
    ·exact by omega
    ·omega
    ·exact ⟨rfl, rfl, rfl, congrArg (fun z => some (Value.int .i64 z)) (by rw [hes]; push_cast; omega), rfl, rfl, trivial⟩
    ·exact en
  ·skip
   obtain rfl : i = n := by omega
   have hc1 := cnt_le isEmp T.cells (8 * i)
   refine xt rfl <| n_code <| t_seq <| t_seq <| t_draw mixed ?_
   apply dq 0 rfl
   ·exact yq (q_move rfl)
   apply dq 1 rfl
   ·exact yq (qfa 2 rfl yU147 rfl rfl yS3)
   apply dq 2 rfl
   ·exact yq (qld rfl yA3)
   apply dq 3 rfl
   ·exact yq (q_un rfl (u_neg ·))
   apply dq 4 rfl
   ·exact yq (qi rfl rfl (b_lss ·))
   apply dq 5 rfl
   ·exact yq (q_move rfl)
   rw [hneg]
   refine d_pt (t := 48) rfl (fun p1 => ?_) fun p1 => ?_
   ·apply dq 6 rfl
    ·exact yq_off rfl rfl rfl (by intro k; simp)
    apply dq 7 rfl
    ·exact yq_off rfl rfl rfl (by intro k; simp)
    apply dq 8 rfl
    ·exact yq_off rfl rfl rfl (by intro k; simp)
    apply dq 10 rfl
    ·exact yq_off rfl rfl rfl (by intro k; simp)
    apply dq 12 rfl
    ·exact yq_off rfl rfl rfl (by intro k; simp)
    apply dq 13 rfl
    ·exact yq_off rfl rfl rfl (by intro k; simp)
    refine d_eff1 [8, 5, 7, 4, 0, 3, 2, 1] [13, 12, 10, 6] 9 [(51, _), (48, _)] gO ⟨rfl, rfl, trivial⟩ (by kernel_rfl) (by kernel_rfl) fun Ex => ?_
    refine l_off rfl rfl rfl rfl <| l_nil ?_
    apply n_d
    ·refine ⟨?_, ?_, ?_, ?_, trivial⟩
     ·apply ya rfl rfl; exact yq_off rfl rfl rfl (by intro k; simp)
     ·apply ya rfl rfl; exact yq_off rfl rfl rfl (by intro k; simp)
     ·apply ya rfl rfl; exact yq_off rfl rfl rfl (by intro k; simp)
     ·apply ya rfl rfl; exact yq_off rfl rfl rfl (by intro k; simp)
    apply dq 11 rfl
    ·exact yq_off rfl rfl rfl (by intro k; simp)
    apply dq 14 rfl
    ·exact yq_off rfl rfl rfl (by intro k; simp)
    apply dq 15 rfl
    ·exact yq_off rfl rfl rfl (by intro k; simp)
    apply dq 16 rfl
    ·exact yq (q_pk rfl rfl)
    refine d_end (by kernel_rfl) ?_
    exact n_code <| t_cond_t rfl <| sr <| asg rfl rfl <| lc <| rt <| fr1 rfl ([arenaH pa s]) (.tmp rfl) (.inl ⟨.inl p1, rfl, rfl⟩)
   ·apply dq 6 rfl
    ·exact yq_on rfl rfl (q_move rfl)
    apply dq 7 rfl
    ·exact yq_on rfl rfl (qfa 1 rfl yU147 rfl rfl yS3)
    apply dq 8 rfl
    ·exact yq_on rfl rfl (qld rfl yA3)
    apply dq 10 rfl
    ·exact yq_on rfl rfl (q_move rfl)
    apply dq 12 rfl
    ·exact yq_on rfl rfl (qfa 2 rfl yU147 rfl rfl yS3)
    apply dq 13 rfl
    ·exact yq_on rfl rfl (qld rfl yA3)
    refine d_eff1 [8, 5, 7, 4, 0, 3, 2, 1] [13, 12, 10, 6] 9 [(51, _), (48, _)] gO ⟨rfl, rfl, trivial⟩ (by kernel_rfl) (by kernel_rfl) fun Ex => ?_
    refine l_on rfl rfl <| lc1 rfl rfl rfl (Most_n hP.he hP.hn) ?_
    refine l_nil ?_
    apply n_d
    ·refine ⟨?_, ?_, ?_, ?_, trivial⟩
     ·apply ya rfl rfl; exact yq_on rfl rfl (qld rfl yA3)
     ·apply ya rfl rfl; exact yq_on rfl rfl (qfa 2 rfl yU147 rfl rfl yS3)
     ·apply ya rfl rfl; exact yq_on rfl rfl (q_move rfl)
     ·apply ya rfl rfl; exact yq_on rfl rfl (q_move rfl)
    apply dq 11 rfl
    ·exact yq_on rfl rfl (qsub rfl rfl)
    apply dq 14 rfl
    ·exact yq_on rfl rfl (qsub rfl rfl)
    apply dq 15 rfl
    ·exact yq_on rfl rfl (qi rfl rfl (b_gtr ·))
    apply dq 16 rfl
    ·exact yq (q_pk rfl rfl)
    refine d_end (by kernel_rfl) ?_
    refine n_code <| t_if rfl (fun p2 => ?_) fun p2 => ?_
    ·refine sr <| asg rfl rfl <| lc <| rt <| fr1 rfl ([arenaH pa s]) (.tmp rfl) ?_
     exact .inl ⟨.inr (by omega), rfl, rfl⟩
    ·skip
     have hw := hP.word (T' := { T with left := T.left + v }) (k := 5) (v := T.left + v) (by decide) (by omega) rfl (head_ne (.inr rfl) (.inr rfl) (.inr rfl) (.inr rfl) (.inl rfl) (.inr rfl)) rfl
     refine t_skip <| nz <| l_q rfl (qlda rfl yA39 yS39) ?_
     refine l_q rfl (qfa 2 rfl yU147 rfl rfl yS3) <| l_q rfl (qld rfl yA3) ?_
     refine mv rfl rfl <| l_q rfl (qadd rfl rfl) ?_
     refine lcf rfl rfl rfl (set_ok pa off 5 s l 40 (T.left + v) rfl (by decide) hP.gh) ?_
     rintro r2 L' rfl
     refine l_nm ?_
     refine lz <| asg rfl rfl <| lc <| rt <| fr1 rfl ([arenaH pa (s.put (off + 8 * 5) 8 (byteN (IntKind.u64.wrap (T.left + v))))]) (.tmp rfl) ?_
     exact .inr ⟨by omega, by omega, _, rfl, rfl, hw.1, hw.2⟩
include hG
theorem Put_elem (h : Int) (hh : 0 ≤ h ∧ h < 18446744073709551616) (key : ByteArray) (hk : key.size = kN l) (elem : ByteArray) (he : (elem.size : Int) ≠ l.elem) (birth : Int) :
  FnOk Tryz.prog 53 #[.agg #[.pointer (some ⟨pa, 0, none⟩), .int .i64 l.key, .int .i64 l.elem, .int .i64 l.ka, .int .i64 l.ea, .int .i64 l.cap, .int .i64 l.eo, .int .i64 l.bo, .int .i64 l.slot, .int .i64 l.group, .int .i64 (off : Nat)], .int .u64 h, .string key, .string elem, .int .i64 birth] [G, arenaH pa s] (fun v L => v = .tuple #[.int .i64 0, .int .i64 62] ∧ L = [G, arenaH pa s]) := by
 refine fn_intro en53 Tryz.func53 rfl rfl rfl fun Fr w0 => t_nm ?_
 refine sr <| o_boxA rfl rfl fun b5 => asg rfl rfl <| asg rfl rfl <| lz <| l_q rfl (qlda rfl yA39 yS39) ?_
 refine mv rfl rfl <| mv rfl rfl <| lc1 rfl rfl rfl (searchP_ok G hG pa off go n e s l T hP h hh key hk) ?_
 refine mv rfl rfl <| l_q rfl (q_extractL rfl ga) ?_
 refine l_q rfl (q_extractL rfl ga) ?_
 refine l_q rfl (q_extractL rfl ga) ?_
 refine o_allocA rfl yZ147 fun b12 => o_allocA rfl yZ224 fun b13 => sta rfl rfl rfl yS147 rfl rfl ?_
 refine sta rfl rfl rfl yS224 rfl rfl ?_
 refine asg rfl rfl <| lc <| t_seq <| t_block <| sr <| mv rfl rfl <| l_q rfl (qi rfl rfl (b_neq ·)) <| asg rfl rfl <| lc <| t_if rfl (fun z => ?_) fun z => ?_
 ·exact absurd rfl z
 ·refine sr <| mv rfl rfl <| l_q rfl (qls rfl yU9) <| l_q rfl (qfa 1 rfl yU39 rfl rfl yS34) <| l_q rfl (qfa 1 rfl yU34 rfl rfl yS3) <| l_q rfl (qld rfl yA3) ?_
  refine l_q rfl (qi rfl rfl (b_neq ·)) <| asg rfl rfl <| lc <| t_if rfl (fun y => ?_) fun y => ?_
  ·exact sr <| asg rfl rfl <| asg rfl rfl <| lc <| rt <| fr2 rfl ([G, arenaH pa s]) (.tmp rfl) (.tmp rfl) ⟨rfl, rfl⟩
  ·exact absurd (by omega) he
theorem Put_birth (h : Int) (hh : 0 ≤ h ∧ h < 18446744073709551616) (key : ByteArray) (hk : key.size = kN l) (elem : ByteArray) (he : elem.size = eN l) (birth : Int) (hb : birth < 0) :
  FnOk Tryz.prog 53 #[.agg #[.pointer (some ⟨pa, 0, none⟩), .int .i64 l.key, .int .i64 l.elem, .int .i64 l.ka, .int .i64 l.ea, .int .i64 l.cap, .int .i64 l.eo, .int .i64 l.bo, .int .i64 l.slot, .int .i64 l.group, .int .i64 (off : Nat)], .int .u64 h, .string key, .string elem, .int .i64 birth] [G, arenaH pa s] (fun v L => v = .tuple #[.int .i64 0, .int .i64 64] ∧ L = [G, arenaH pa s]) := by
 have hN := layN hP.hl
 have hes : (elem.size : Int) = l.elem := by rw [he]; exact hN.e
 refine fn_intro en53 Tryz.func53 rfl rfl rfl fun Fr w0 => t_nm ?_
 refine sr <| o_boxA rfl rfl fun b5 => asg rfl rfl <| asg rfl rfl <| lz <| l_q rfl (qlda rfl yA39 yS39) ?_
 refine mv rfl rfl <| mv rfl rfl <| lc1 rfl rfl rfl (searchP_ok G hG pa off go n e s l T hP h hh key hk) ?_
 refine mv rfl rfl <| l_q rfl (q_extractL rfl ga) ?_
 refine l_q rfl (q_extractL rfl ga) ?_
 refine l_q rfl (q_extractL rfl ga) ?_
 refine o_allocA rfl yZ147 fun b12 => o_allocA rfl yZ224 fun b13 => sta rfl rfl rfl yS147 rfl rfl ?_
 refine sta rfl rfl rfl yS224 rfl rfl ?_
 refine asg rfl rfl <| lc <| t_seq <| t_block <| sr <| mv rfl rfl <| l_q rfl (qi rfl rfl (b_neq ·)) <| asg rfl rfl <| lc <| t_if rfl (fun z => ?_) fun z => ?_
 ·exact absurd rfl z
 ·refine sr <| mv rfl rfl <| l_q rfl (qls rfl yU9) <| l_q rfl (qfa 1 rfl yU39 rfl rfl yS34) <| l_q rfl (qfa 1 rfl yU34 rfl rfl yS3) <| l_q rfl (qld rfl yA3) ?_
  refine l_q rfl (qi rfl rfl (b_neq ·)) <| asg rfl rfl <| lc <| t_if rfl (fun y => ?_) fun y => ?_
  ·exact absurd hes y
  ·refine sr <| mv rfl rfl <| l_q rfl (qi rfl rfl (b_lss ·)) <| asg rfl rfl <| lc <| t_if rfl (fun x => ?_) fun x => ?_
   ·exact sr <| asg rfl rfl <| asg rfl rfl <| lc <| rt <| fr2 rfl ([G, arenaH pa s]) (.tmp rfl) (.tmp rfl) ⟨rfl, rfl⟩
   ·omega
end
/-- New, where the slots are no such number, or the depth. -/
theorem New_slots (pa : Nat) (vl : Array Value) (slots depth : Int) (hs : -9223372036854775808 ≤ slots ∧ slots ≤ 9223372036854775807) (hb : Probe.powB slots 8 65536 = false) :
  FnOk Tryz.prog 52 #[.pointer (some ⟨pa, 0, none⟩), .agg vl, .int .i64 slots, .int .i64 depth] [] (fun v L => v = .tuple #[.agg #[.pointer none, .int .i64 0, .int .i64 0, .int .i64 0, .int .i64 0, .int .i64 0, .int .i64 0, .int .i64 0, .int .i64 0, .int .i64 0, .int .i64 0], .int .i64 80] ∧ L = []) := by
 refine fn_intro en52 Tryz.func52 rfl rfl rfl fun Fr w0 => t_nm ?_
 refine sr <| o_boxA rfl rfl fun b5 => o_allocA rfl yZ39 fun b8 => asg rfl rfl <| lc <| t_seq <| sr <| mv rfl rfl <| l_q rfl (qi rfl rfl (b_lss ·)) <| mv rfl rfl <| l_pt (t := 17) rfl (fun p1 => ?_) fun p1 => ?_
 ·refine l_off rfl rfl rfl rfl <| l_off rfl rfl rfl rfl <| l_q rfl (q_pk rfl rfl) <| mv rfl rfl <| l_off rfl rfl rfl rfl <| l_off rfl rfl rfl rfl <| l_off rfl rfl rfl rfl <| l_off rfl rfl rfl rfl <| l_off rfl rfl rfl rfl <| l_q rfl (q_pk rfl rfl) <| lc <| t_cond_t rfl <| sr ?_
  apply l_q rfl
  ·apply q_buildS rfl yP39 yZ39
   ·exact FillR.nil
  refine sta rfl rfl rfl yS39 rfl rfl ?_
  refine asg rfl rfl <| lc <| rt ?_
  apply f_ret (.inl rfl) ([])
  ·apply res2 rfl
   ·apply Rv.agg rfl
    ·exact tk
    ·exact run_loadAll yA39 yS39 rfl
   ·exact .tmp rfl
  ·exact ⟨rfl, rfl⟩
  ·exact en
 ·refine l_on rfl rfl <| mv rfl rfl <| l_on rfl rfl <| l_q rfl (qi rfl rfl (b_gtr ·)) <| l_q rfl (q_pk rfl rfl) <| mv rfl rfl <| l_pt (t := 21) rfl (fun p2 => ?_) fun p2 => ?_
  ·refine l_off rfl rfl rfl rfl <| l_off rfl rfl rfl rfl <| l_off rfl rfl rfl rfl <| l_off rfl rfl rfl rfl <| l_off rfl rfl rfl rfl <| l_q rfl (q_pk rfl rfl) <| lc <| t_cond_t rfl <| sr ?_
   apply l_q rfl
   ·apply q_buildS rfl yP39 yZ39
    ·exact FillR.nil
   refine sta rfl rfl rfl yS39 rfl rfl ?_
   refine asg rfl rfl <| lc <| rt ?_
   apply f_ret (.inl rfl) ([])
   ·apply res2 rfl
    ·apply Rv.agg rfl
     ·exact tk
     ·exact run_loadAll yA39 yS39 rfl
    ·exact .tmp rfl
   ·exact ⟨rfl, rfl⟩
   ·exact en
  ·refine l_on rfl rfl <| mv rfl rfl <| l_on rfl rfl <| mv rfl rfl <| l_on rfl rfl <| l_q rfl (qsub rfl rfl) ?_
   refine l_on rfl rfl <| l_q rfl (qbit rfl rfl rfl) <| l_on rfl rfl <| l_q rfl (qi rfl rfl (b_neq ·)) <| l_q rfl (q_pk rfl rfl) <| lc <| t_if rfl (fun p3 => ?_) fun p3 => ?_
   ·refine sr ?_
    apply l_q rfl
    ·apply q_buildS rfl yP39 yZ39
     ·exact FillR.nil
    refine sta rfl rfl rfl yS39 rfl rfl ?_
    refine asg rfl rfl <| lc <| rt ?_
    apply f_ret (.inl rfl) ([])
    ·apply res2 rfl
     ·apply Rv.agg rfl
      ·exact tk
      ·exact run_loadAll yA39 yS39 rfl
     ·exact .tmp rfl
    ·exact ⟨rfl, rfl⟩
    ·exact en
   ·skip
    exfalso
    have e3 := Probe.pow2_eq (n := slots) (by omega) (by omega)
    rw [show Probe.powB slots 8 65536 = true by
     unfold Probe.powB
     rw [← e3]
     simp
     omega] at hb
    cases hb
theorem New_depth (pa : Nat) (vl : Array Value) (slots depth : Int) (hp : Probe.powB slots 8 65536 = true) (hd : depth < 0 ∨ 6 < depth) :
  FnOk Tryz.prog 52 #[.pointer (some ⟨pa, 0, none⟩), .agg vl, .int .i64 slots, .int .i64 depth] [] (fun v L => v = .tuple #[.agg #[.pointer none, .int .i64 0, .int .i64 0, .int .i64 0, .int .i64 0, .int .i64 0, .int .i64 0, .int .i64 0, .int .i64 0, .int .i64 0, .int .i64 0], .int .i64 81] ∧ L = []) := by
 have hp8 := hp
 simp only [Probe.powB, Bool.and_eq_true, decide_eq_true_eq] at hp8
 have hbit : bits .and .i64 slots (slots - 1) = 0 := by
  have := Probe.pow2_eq (n := slots) (by omega) (by omega)
  rw [hp8.2] at this
  exact of_decide_eq_true this
 refine fn_intro en52 Tryz.func52 rfl rfl rfl fun Fr w0 => t_nm ?_
 refine sr <| o_boxA rfl rfl fun b5 => o_allocA rfl yZ39 fun b8 => asg rfl rfl <| lc <| t_seq <| sr <| mv rfl rfl <| l_q rfl (qi rfl rfl (b_lss ·)) <| mv rfl rfl <| l_pt (t := 17) rfl (fun p1 => ?_) fun p1 => ?_
 ·omega
 ·refine l_on rfl rfl <| mv rfl rfl <| l_on rfl rfl <| l_q rfl (qi rfl rfl (b_gtr ·)) <| l_q rfl (q_pk rfl rfl) <| mv rfl rfl <| l_pt (t := 21) rfl (fun p2 => ?_) fun p2 => ?_
  ·omega
  ·refine l_on rfl rfl <| mv rfl rfl <| l_on rfl rfl <| mv rfl rfl <| l_on rfl rfl <| l_q rfl (qsub rfl rfl) ?_
   refine l_on rfl rfl <| l_q rfl (qbit rfl rfl rfl) <| l_on rfl rfl <| l_q rfl (qi rfl rfl (b_neq ·)) <| l_q rfl (q_pk rfl rfl) <| lc <| t_if rfl (fun p3 => ?_) fun p3 => ?_
   ·omega
   ·refine t_skip <| n_code <| t_seq <| sr <| mv rfl rfl <| l_q rfl (qi rfl rfl (b_lss ·)) <| mv rfl rfl <| l_pt (t := 31) rfl (fun d1 => ?_) fun d1 => ?_
    ·refine l_off rfl rfl rfl rfl <| l_off rfl rfl rfl rfl <| l_q rfl (q_pk rfl rfl) <| lc <| t_cond_t rfl <| sr ?_
     apply l_q rfl
     ·apply q_buildS rfl yP39 yZ39
      ·exact FillR.nil
     refine sta rfl rfl rfl yS39 rfl rfl ?_
     refine asg rfl rfl <| lc <| rt ?_
     apply f_ret (.inl rfl) ([])
     ·apply res2 rfl
      ·apply Rv.agg rfl
       ·exact tk
       ·exact run_loadAll yA39 yS39 rfl
      ·exact .tmp rfl
     ·exact ⟨rfl, rfl⟩
     ·exact en
    ·refine l_on rfl rfl <| mv rfl rfl <| l_on rfl rfl <| l_q rfl (qi rfl rfl (b_gtr ·)) <| l_q rfl (q_pk rfl rfl) <| lc <| t_if rfl (fun d2 => ?_) fun d2 => ?_
     ·refine sr ?_
      apply l_q rfl
      ·apply q_buildS rfl yP39 yZ39
       ·exact FillR.nil
      refine sta rfl rfl rfl yS39 rfl rfl ?_
      refine asg rfl rfl <| lc <| rt ?_
      apply f_ret (.inl rfl) ([])
      ·apply res2 rfl
       ·apply Rv.agg rfl
        ·exact tk
        ·exact run_loadAll yA39 yS39 rfl
       ·exact .tmp rfl
      ·exact ⟨rfl, rfl⟩
      ·exact en
     ·omega
end Go.Proofs.YthkajgkagnenbaaGreatDoor.Table
