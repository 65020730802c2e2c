import Derived.Test.YthkajgkagnenbaaGreatDoorExactC
import Derived.Test.YthkajgkagnenbaaGreatDoorEngMap
/- One step of the laws over scripts, by the program's table and the document's: tells. -/
set_option linter.unusedVariables false
set_option linter.unusedSimpArgs false
set_option linter.unusedSectionVars false
set_option maxRecDepth 100000
namespace Go.Proofs.YthkajgkagnenbaaGreatDoor.Exact
open Go.RowKit Go.Proofs Go.Proofs.YthkajgkagnenbaaGreatDoor.Eng Go.Proofs.YthkajgkagnenbaaGreatDoor.Ty Go.Proofs.YthkajgkagnenbaaGreatDoor.Bits Go.Proofs.YthkajgkagnenbaaGreatDoor.Mem Go.Proofs.YthkajgkagnenbaaGreatDoor.Search Go.Proofs.YthkajgkagnenbaaGreatDoor.Arena Go.Proofs.YthkajgkagnenbaaGreatDoor.CtrlB Go.Proofs.YthkajgkagnenbaaGreatDoor.Ctrl Go.Proofs.YthkajgkagnenbaaGreatDoor.Layout Go.Proofs.YthkajgkagnenbaaGreatDoor.GroupB Go.Proofs.YthkajgkagnenbaaGreatDoor.Group Go.Proofs.YthkajgkagnenbaaGreatDoor.Probe Go.Proofs.YthkajgkagnenbaaGreatDoor.TableB Go.Proofs.YthkajgkagnenbaaGreatDoor.TableI Go.Proofs.YthkajgkagnenbaaGreatDoor.Table Go.Proofs.YthkajgkagnenbaaGreatDoor.Bench Go.Proofs.YthkajgkagnenbaaGreatDoor.Cells Go.Proofs.YthkajgkagnenbaaGreatDoor.Refill Go.Proofs.YthkajgkagnenbaaGreatDoor.RefA Go.Proofs.YthkajgkagnenbaaGreatDoor.RefT Go.Proofs.YthkajgkagnenbaaGreatDoor.Ref03

theorem b_eqlPs {P : Program} {t e : TypeId} {n : Nat} (w : World) (hu : P.underlying t = some (.pointer e)) (hs : ∀ w, (sizeOf e).run P w = .ok n w) {a : Addr} : (binOp .eql t (.pointer (some a)) (.pointer (some a))).run P w = .ok (.bool true) w := by
 simp [binOp, eqPs w hu hs, Result.andThen]
theorem TOff8_ok (pa : Nat) (l : Lay) (off : Int) : FnOk Tryz.prog 72 #[.agg #[.pointer (some ⟨pa, 0, none⟩), .int .i64 l.key, .int .i64 l.elem, .int .i64 l.ka, .int .i64 l.ea, .int .i64 l.cap, .int .i64 l.eo, .int .i64 l.bo, .int .i64 l.slot, .int .i64 l.group, .int .i64 off]] [] (fun v L => v = .int .i64 off ∧ L = []) := by
 refine fn_intro en72 Tryz.func72 rfl rfl rfl fun Fr w0 => t_nm ?_
 refine sr<|o_boxA O O fun b1 => asg O O<|lz<|l_q O (qfa 10 rfl yU39 O O yS3)<|l_q O (qld O yA3) ?_
 exact asg O O<|lc<|rt<|fr1 O ([]) (.tmp rfl) ⟨rfl, rfl⟩
theorem TArena8_ok (pa : Nat) (l : Lay) (off : Int) : FnOk Tryz.prog 55 #[.agg #[.pointer (some ⟨pa, 0, none⟩), .int .i64 l.key, .int .i64 l.elem, .int .i64 l.ka, .int .i64 l.ea, .int .i64 l.cap, .int .i64 l.eo, .int .i64 l.bo, .int .i64 l.slot, .int .i64 l.group, .int .i64 off]] [] (fun v L => v = .pointer (some ⟨pa, 0, none⟩) ∧ L = []) := by
 refine fn_intro en55 Tryz.func55 rfl rfl rfl fun Fr w0 => t_nm ?_
 refine sr<|o_boxA O O fun b1 => asg O O<|lz<|l_q O (qfa 0 rfl yU39 O O yS31)<|l_q O (qld O yA31) ?_
 exact asg O O<|lc<|rt<|fr1 O ([]) (.tmp rfl) ⟨rfl, rfl⟩
theorem TLayout8_ok (pa : Nat) (l : Lay) (off : Int) : FnOk Tryz.prog 94 #[.agg #[.pointer (some ⟨pa, 0, none⟩), .int .i64 l.key, .int .i64 l.elem, .int .i64 l.ka, .int .i64 l.ea, .int .i64 l.cap, .int .i64 l.eo, .int .i64 l.bo, .int .i64 l.slot, .int .i64 l.group, .int .i64 off]] [] (fun v L => v = .agg #[.int .i64 l.key, .int .i64 l.elem, .int .i64 l.ka, .int .i64 l.ea, .int .i64 l.cap, .int .i64 l.eo, .int .i64 l.bo, .int .i64 l.slot, .int .i64 l.group] ∧ L = []) := by
 refine fn_intro en94 Tryz.func94 rfl rfl rfl fun Fr w0 => t_nm ?_
 refine sr<|o_boxA O O fun b1 => o_allocA O yZ34 fun b2 => lz<|l_q O (qfa 1 rfl yU39 O O yS34)<|l_q O (qlda O yA34 yS34) ?_
 refine sta O O O yS34 O O ?_
 refine lc<|rt ?_
 apply f_ret (.inl rfl) ([])
 ·apply res1 O
  ·apply Rv.agg rfl
   ·exact tk
   ·exact run_loadAll yA34 yS34 O
 ·exact ⟨rfl, rfl⟩
 ·exact en
section
variable (G : HP) (hG : TabOk G) (pb pa pr : Nat) (s : ArS) (hs : s.ok) (l : Lay) (hl : l.err = 0) (x : PR) (hO : One s l x) (hov : x.over = false) (vP : Value)
include hG hs hl hO hov
theorem tells_ok (o : Op8) (hw : o.wf) : FnOk Tryz.prog 36 #[.pointer (some ⟨pb, 0, none⟩), .agg #[.pointer (some ⟨pa, 0, none⟩), .int .i64 l.key, .int .i64 l.elem, .int .i64 l.ka, .int .i64 l.ea, .int .i64 l.cap, .int .i64 l.eo, .int .i64 l.bo, .int .i64 l.slot, .int .i64 l.group, .int .i64 (x.off : Nat), .pointer (some ⟨x.p, 0, none⟩), .bool x.over], .agg #[.int .i64 o.kind, .int .i64 o.t, .int .i64 o.n, .int .i64 o.m, .int .u64 o.h, .string o.k, .string o.e]] [rtH pr l x, pt pb (.cells #[.pointer (some ⟨pa, 0, none⟩), .pointer (some ⟨pr, 0, none⟩), .int .i64 l.key, .int .i64 l.elem, .int .i64 l.ka, .int .i64 l.ea, .int .i64 l.cap, .int .i64 l.eo, .int .i64 l.bo, .int .i64 l.slot, .int .i64 l.group, vP] 37 (0, 0)), arenaH pa s] (fun v L => v = .bool true ∧ L = [rtH pr l x, pt pb (.cells #[.pointer (some ⟨pa, 0, none⟩), .pointer (some ⟨pr, 0, none⟩), .int .i64 l.key, .int .i64 l.elem, .int .i64 l.ka, .int .i64 l.ea, .int .i64 l.cap, .int .i64 l.eo, .int .i64 l.bo, .int .i64 l.slot, .int .i64 l.group, vP] 37 (0, 0)), arenaH pa s]) := by
 obtain ⟨hn0, hn8⟩ := One.nb G hG s hs l hl x hO hov
 have hN := layN hl
 refine fn_intro en36 Tryz.func36 rfl rfl rfl fun Fr w0 => t_nm ?_
 refine sr<|o_boxA O O fun b4 => o_boxA O O fun b5 => asg O O<|lc<|t_seq<|sr<|l_q O (qfa 0 rfl yU29 O O yS3)<|l_q O (qld O yA3) ?_
 refine lc<|t_block<|sr<|l_q O (qi O O (b_eql ·))<|asg O O<|lc<|t_if O (fun k1 => ?_) fun k1 => ?_
 ·skip
  cases hd : x.dead with
  | true =>
   have hst : statX x = (#[.int .i64 0, .int .i64 0, .int .i64 0, .int .i64 0, .int .i64 0, .int .i64 0, .bool false, .int .i64 0], 24) := by unfold statX; rw [if_pos hd]
   refine sr<|l_q O (qfa 0 rfl yU42 O O yS39)<|l_q O (qlda O yA39 yS39) ?_
   refine lc1 O O O (StatX pa s hs l hl x hO hov) ?_
   rw [hst]
   refine mv O O<|l_q O (q_extractL O ga) ?_
   refine l_q O (q_extractL O ga) ?_
   refine o_allocA O yZ147 fun b7 => sta O O O yS147 O O ?_
   refine asg O O<|lz<|l_q O (qfa 11 rfl yU42 O O yS40)<|l_q O (qld O yA40) ?_
   refine lc1 O O O (RStat_ok pr l x hn8 hO.rng) ?_
   rw [hst]
   refine rt_openL tk fun vc => ?_
   refine mv O O<|l_q O (q_extractL O ga) ?_
   refine l_q O (q_extractL O ga) ?_
   refine o_allocA O yZ147 fun b9 => sta O O O yS147 O O ?_
   refine asg O O<|lc<|t_seq<|t_draw mixed ?_
   apply dq 0 rfl
   ·exact yq (qlda O yA147 yS147)
   apply dq 1 rfl
   ·exact yq (qlda O yA147 yS147)
   apply dq 2 rfl
   ·exact yq (q_bin O O (g_flat · yG147) fun w => b_eqlFlat w yU147 yH147 (by kernel_rfl) (by kernel_rfl))
   apply dq 3 rfl
   ·exact yq (q_move O)
   refine d_pt (t := 42) rfl (fun z1 => ?_) fun z1 => ?_
   ·apply dq 4 rfl
    ·exact yq_on O O (q_move O)
    apply dq 6 rfl
    ·exact yq_on O O (q_move O)
    refine d_eff1 [4, 3, 2, 0, 1] [6] 5 [(43, _), (42, _)] gO ⟨rfl, rfl, trivial⟩ (by kernel_rfl) (by kernel_rfl) fun Ex => ?_
    refine l_on O O<|lc1 O O O (num8_ok _) ?_
    refine l_nil ?_
    apply n_d
    ·refine ⟨?_, trivial⟩
     ·apply ya O O; exact yq_on O O (q_move O)
    apply dq 7 rfl
    ·exact yq_on O O (qi O O (b_eql ·))
    apply dq 8 rfl
    ·exact yq (q_pk O O)
    apply dq 9 rfl
    ·exact yq (q_move O)
    refine d_pt (t := 48) rfl (fun z2 => ?_) fun z2 => ?_
    ·apply dq 10 rfl
     ·exact yq_on O O (qfa 0 rfl yU42 O O yS39)
     apply dq 11 rfl
     ·exact yq_on O O (qlda O yA39 yS39)
     apply dq 13 rfl
     ·exact yq_on O O (qfa 11 rfl yU42 O O yS40)
     apply dq 14 rfl
     ·exact yq_on O O (qld O yA40)
     apply dq 15 rfl
     ·exact yq_on O O (q_nilCheck O)
     apply dq 16 rfl
     ·exact yq_on O O (qfa 10 rfl yU45 O O yS3)
     apply dq 17 rfl
     ·exact yq_on O O (qld O yA3)
     refine d_eff1 [11, 9, 10, 8, 7, 6] [17, 16, 15, 14, 13] 12 [(50, _), (48, _)] gO ⟨rfl, rfl, trivial⟩ (by kernel_rfl) (by kernel_rfl) fun Ex => ?_
     refine l_on O O<|lc1 O O O (TOff8_ok pa l (x.off : Nat)) ?_
     refine l_nil ?_
     apply n_d
     ·refine ⟨?_, ?_, ?_, ?_, ?_, trivial⟩
      ·apply ya O O; exact yq_on O O (qld O yA3)
      ·apply ya O O; exact yq_on O O (qfa 10 rfl yU45 O O yS3)
      ·apply ya O O; exact yq_on O O (q_nilCheck O)
      ·apply ya O O; exact yq_on O O (qld O yA40)
      ·apply ya O O; exact yq_on O O (qfa 11 rfl yU42 O O yS40)
     apply dq 18 rfl
     ·exact yq_on O O (qi O O (b_eql ·))
     apply dq 19 rfl
     ·exact yq (q_pk O O)
     apply dq 20 rfl
     ·exact yq (q_move O)
     refine d_pt (t := 59) rfl (fun z3 => ?_) fun z3 => ?_
     ·apply dq 21 rfl
      ·exact yq_on O O (qfa 0 rfl yU42 O O yS39)
      apply dq 22 rfl
      ·exact yq_on O O (qlda O yA39 yS39)
      apply dq 24 rfl
      ·exact yq_on O O (q_move O)
      apply dq 25 rfl
      ·exact yq_on O O (q_nilCheck O)
      apply dq 26 rfl
      ·exact yq_on O O (qfa 2 rfl yU37 O O yS34)
      apply dq 27 rfl
      ·exact yq_on O O (qlda O yA34 yS34)
      refine d_eff1 [22, 20, 21, 19, 18, 17, 16, 15, 14, 13] [27, 26, 25, 24] 23 [(61, _), (59, _)] gO ⟨rfl, rfl, trivial⟩ (by kernel_rfl) (by kernel_rfl) fun Ex => ?_
      refine l_on O O<|lc1 O O O (TLayout8_ok pa l (x.off : Nat)) ?_
      refine l_nil ?_
      apply n_d
      ·refine ⟨?_, ?_, ?_, ?_, trivial⟩
       ·apply ya O O; exact yq_on O O (qlda O yA34 yS34)
       ·apply ya O O; exact yq_on O O (qfa 2 rfl yU37 O O yS34)
       ·apply ya O O; exact yq_on O O (q_nilCheck O)
       ·apply ya O O; exact yq_on O O (q_move O)
      apply dq 28 rfl
      ·exact yq_on O O (q_bin O O (g_flat · yG34) fun w => b_eqlFlat w yU34 yH34 (by kernel_rfl) (by kernel_rfl))
      apply dq 29 rfl
      ·exact yq (q_pk O O)
      apply dq 30 rfl
      ·exact yq (q_move O)
      refine d_pt (t := 69) rfl (fun z4 => ?_) fun z4 => ?_
      ·apply dq 31 rfl
       ·exact yq_on O O (qfa 0 rfl yU42 O O yS39)
       apply dq 32 rfl
       ·exact yq_on O O (qlda O yA39 yS39)
       apply dq 34 rfl
       ·exact yq_on O O (q_move O)
       apply dq 35 rfl
       ·exact yq_on O O (q_nilCheck O)
       apply dq 36 rfl
       ·exact yq_on O O (qfa 0 rfl yU37 O O yS31)
       apply dq 37 rfl
       ·exact yq_on O O (qld O yA31)
       refine d_eff1 [32, 30, 31, 29, 28, 27, 26, 25, 24] [37, 36, 35, 34] 33 [(71, _), (69, _)] gO ⟨rfl, rfl, trivial⟩ (by kernel_rfl) (by kernel_rfl) fun Ex => ?_
       refine l_on O O<|lc1 O O O (TArena8_ok pa l (x.off : Nat)) ?_
       refine l_nil ?_
       apply n_d
       ·refine ⟨?_, ?_, ?_, ?_, trivial⟩
        ·apply ya O O; exact yq_on O O (qld O yA31)
        ·apply ya O O; exact yq_on O O (qfa 0 rfl yU37 O O yS31)
        ·apply ya O O; exact yq_on O O (q_nilCheck O)
        ·apply ya O O; exact yq_on O O (q_move O)
       apply dq 38 rfl
       ·exact yq_on O O (q_bin O O (g_pointer ·) (b_eqlPs · Tryz.underlying31 yS116))
       apply dq 39 rfl
       ·exact yq (q_pk O O)
       refine d_eff1 [39, 34, 35, 36, 37, 38] [] 40 [(78, _)] gO ⟨rfl, trivial⟩ (by kernel_rfl) (by kernel_rfl) fun Ex => ?_
       refine asg O O<|l_nil ?_
       apply n_d
       ·exact trivial
       refine d_end (by kernel_rfl) ?_
       refine n_code<|rt ?_
       apply f_ret (.inl rfl) ([rtH pr l x, pt pb (.cells #[.pointer (some ⟨pa, 0, none⟩), .pointer (some ⟨pr, 0, none⟩), .int .i64 l.key, .int .i64 l.elem, .int .i64 l.ka, .int .i64 l.ea, .int .i64 l.cap, .int .i64 l.eo, .int .i64 l.bo, .int .i64 l.slot, .int .i64 l.group, vP] 37 (0, 0)), arenaH pa s])
       ·apply res1 O
        ·exact .tmp rfl
       ·exact ⟨rfl, rfl⟩
       ·refine rt_close vc ?_; (exact en)
      ·exact absurd ((decT rfl).symm.trans z4) (by decide)
     ·exact absurd rfl z3
    ·exact absurd rfl z2
   ·exact absurd ((decT rfl).symm.trans z1) (by decide)
  | false =>
   have hst : statX x = (#[.int .i64 x.T.used, .int .i64 (8 * (x.n : Int)), .int .i64 x.T.left, .int .i64 x.T.depth, .int .i64 x.T.pins, .int .i64 x.T.next, .bool (decide (x.T.kind = 4)), .int .i64 (x.go : Nat)], 0) := by unfold statX; rw [if_neg (by simp [hd])]
   refine sr<|l_q O (qfa 0 rfl yU42 O O yS39)<|l_q O (qlda O yA39 yS39) ?_
   refine lc1 O O O (StatX pa s hs l hl x hO hov) ?_
   rw [hst]
   refine mv O O<|l_q O (q_extractL O ga) ?_
   refine l_q O (q_extractL O ga) ?_
   refine o_allocA O yZ147 fun b7 => sta O O O yS147 O O ?_
   refine asg O O<|lz<|l_q O (qfa 11 rfl yU42 O O yS40)<|l_q O (qld O yA40) ?_
   refine lc1 O O O (RStat_ok pr l x hn8 hO.rng) ?_
   rw [hst]
   refine rt_openL tk fun vc => ?_
   refine mv O O<|l_q O (q_extractL O ga) ?_
   refine l_q O (q_extractL O ga) ?_
   refine o_allocA O yZ147 fun b9 => sta O O O yS147 O O ?_
   refine asg O O<|lc<|t_seq<|t_draw mixed ?_
   apply dq 0 rfl
   ·exact yq (qlda O yA147 yS147)
   apply dq 1 rfl
   ·exact yq (qlda O yA147 yS147)
   apply dq 2 rfl
   ·exact yq (q_bin O O (g_flat · yG147) fun w => b_eqlFlat w yU147 yH147 (by kernel_rfl) (by kernel_rfl))
   apply dq 3 rfl
   ·exact yq (q_move O)
   refine d_pt (t := 42) rfl (fun z1 => ?_) fun z1 => ?_
   ·apply dq 4 rfl
    ·exact yq_on O O (q_move O)
    apply dq 6 rfl
    ·exact yq_on O O (q_move O)
    refine d_eff1 [4, 3, 2, 0, 1] [6] 5 [(43, _), (42, _)] gO ⟨rfl, rfl, trivial⟩ (by kernel_rfl) (by kernel_rfl) fun Ex => ?_
    refine l_on O O<|lc1 O O O (num8_ok _) ?_
    refine l_nil ?_
    apply n_d
    ·refine ⟨?_, trivial⟩
     ·apply ya O O; exact yq_on O O (q_move O)
    apply dq 7 rfl
    ·exact yq_on O O (qi O O (b_eql ·))
    apply dq 8 rfl
    ·exact yq (q_pk O O)
    apply dq 9 rfl
    ·exact yq (q_move O)
    refine d_pt (t := 48) rfl (fun z2 => ?_) fun z2 => ?_
    ·apply dq 10 rfl
     ·exact yq_on O O (qfa 0 rfl yU42 O O yS39)
     apply dq 11 rfl
     ·exact yq_on O O (qlda O yA39 yS39)
     apply dq 13 rfl
     ·exact yq_on O O (qfa 11 rfl yU42 O O yS40)
     apply dq 14 rfl
     ·exact yq_on O O (qld O yA40)
     apply dq 15 rfl
     ·exact yq_on O O (q_nilCheck O)
     apply dq 16 rfl
     ·exact yq_on O O (qfa 10 rfl yU45 O O yS3)
     apply dq 17 rfl
     ·exact yq_on O O (qld O yA3)
     refine d_eff1 [11, 9, 10, 8, 7, 6] [17, 16, 15, 14, 13] 12 [(50, _), (48, _)] gO ⟨rfl, rfl, trivial⟩ (by kernel_rfl) (by kernel_rfl) fun Ex => ?_
     refine l_on O O<|lc1 O O O (TOff8_ok pa l (x.off : Nat)) ?_
     refine l_nil ?_
     apply n_d
     ·refine ⟨?_, ?_, ?_, ?_, ?_, trivial⟩
      ·apply ya O O; exact yq_on O O (qld O yA3)
      ·apply ya O O; exact yq_on O O (qfa 10 rfl yU45 O O yS3)
      ·apply ya O O; exact yq_on O O (q_nilCheck O)
      ·apply ya O O; exact yq_on O O (qld O yA40)
      ·apply ya O O; exact yq_on O O (qfa 11 rfl yU42 O O yS40)
     apply dq 18 rfl
     ·exact yq_on O O (qi O O (b_eql ·))
     apply dq 19 rfl
     ·exact yq (q_pk O O)
     apply dq 20 rfl
     ·exact yq (q_move O)
     refine d_pt (t := 59) rfl (fun z3 => ?_) fun z3 => ?_
     ·apply dq 21 rfl
      ·exact yq_on O O (qfa 0 rfl yU42 O O yS39)
      apply dq 22 rfl
      ·exact yq_on O O (qlda O yA39 yS39)
      apply dq 24 rfl
      ·exact yq_on O O (q_move O)
      apply dq 25 rfl
      ·exact yq_on O O (q_nilCheck O)
      apply dq 26 rfl
      ·exact yq_on O O (qfa 2 rfl yU37 O O yS34)
      apply dq 27 rfl
      ·exact yq_on O O (qlda O yA34 yS34)
      refine d_eff1 [22, 20, 21, 19, 18, 17, 16, 15, 14, 13] [27, 26, 25, 24] 23 [(61, _), (59, _)] gO ⟨rfl, rfl, trivial⟩ (by kernel_rfl) (by kernel_rfl) fun Ex => ?_
      refine l_on O O<|lc1 O O O (TLayout8_ok pa l (x.off : Nat)) ?_
      refine l_nil ?_
      apply n_d
      ·refine ⟨?_, ?_, ?_, ?_, trivial⟩
       ·apply ya O O; exact yq_on O O (qlda O yA34 yS34)
       ·apply ya O O; exact yq_on O O (qfa 2 rfl yU37 O O yS34)
       ·apply ya O O; exact yq_on O O (q_nilCheck O)
       ·apply ya O O; exact yq_on O O (q_move O)
      apply dq 28 rfl
      ·exact yq_on O O (q_bin O O (g_flat · yG34) fun w => b_eqlFlat w yU34 yH34 (by kernel_rfl) (by kernel_rfl))
      apply dq 29 rfl
      ·exact yq (q_pk O O)
      apply dq 30 rfl
      ·exact yq (q_move O)
      refine d_pt (t := 69) rfl (fun z4 => ?_) fun z4 => ?_
      ·apply dq 31 rfl
       ·exact yq_on O O (qfa 0 rfl yU42 O O yS39)
       apply dq 32 rfl
       ·exact yq_on O O (qlda O yA39 yS39)
       apply dq 34 rfl
       ·exact yq_on O O (q_move O)
       apply dq 35 rfl
       ·exact yq_on O O (q_nilCheck O)
       apply dq 36 rfl
       ·exact yq_on O O (qfa 0 rfl yU37 O O yS31)
       apply dq 37 rfl
       ·exact yq_on O O (qld O yA31)
       refine d_eff1 [32, 30, 31, 29, 28, 27, 26, 25, 24] [37, 36, 35, 34] 33 [(71, _), (69, _)] gO ⟨rfl, rfl, trivial⟩ (by kernel_rfl) (by kernel_rfl) fun Ex => ?_
       refine l_on O O<|lc1 O O O (TArena8_ok pa l (x.off : Nat)) ?_
       refine l_nil ?_
       apply n_d
       ·refine ⟨?_, ?_, ?_, ?_, trivial⟩
        ·apply ya O O; exact yq_on O O (qld O yA31)
        ·apply ya O O; exact yq_on O O (qfa 0 rfl yU37 O O yS31)
        ·apply ya O O; exact yq_on O O (q_nilCheck O)
        ·apply ya O O; exact yq_on O O (q_move O)
       apply dq 38 rfl
       ·exact yq_on O O (q_bin O O (g_pointer ·) (b_eqlPs · Tryz.underlying31 yS116))
       apply dq 39 rfl
       ·exact yq (q_pk O O)
       refine d_eff1 [39, 34, 35, 36, 37, 38] [] 40 [(78, _)] gO ⟨rfl, trivial⟩ (by kernel_rfl) (by kernel_rfl) fun Ex => ?_
       refine asg O O<|l_nil ?_
       apply n_d
       ·exact trivial
       refine d_end (by kernel_rfl) ?_
       refine n_code<|rt ?_
       apply f_ret (.inl rfl) ([rtH pr l x, pt pb (.cells #[.pointer (some ⟨pa, 0, none⟩), .pointer (some ⟨pr, 0, none⟩), .int .i64 l.key, .int .i64 l.elem, .int .i64 l.ka, .int .i64 l.ea, .int .i64 l.cap, .int .i64 l.eo, .int .i64 l.bo, .int .i64 l.slot, .int .i64 l.group, vP] 37 (0, 0)), arenaH pa s])
       ·apply res1 O
        ·exact .tmp rfl
       ·exact ⟨rfl, rfl⟩
       ·refine rt_close vc ?_; (exact en)
      ·exact absurd ((decT rfl).symm.trans z4) (by decide)
     ·exact absurd rfl z3
    ·exact absurd rfl z2
   ·exact absurd ((decT rfl).symm.trans z1) (by decide)
 ·refine sr<|l_q O (qi O O (b_eql ·))<|asg O O<|lc<|t_if O (fun k2 => ?_) fun k2 => ?_
  ·refine sr<|l_q O (qfa 0 rfl yU42 O O yS39)<|l_q O (qlda O yA39 yS39) ?_
   refine l_q O (qfa 2 rfl yU29 O O yS3)<|l_q O (qld O yA3) ?_
   refine lc1 O O O (CellX pa s hs l hl x hO hov o.n) ?_
   refine mv O O<|l_q O (q_extractL O ga) ?_
   refine l_q O (q_extractL O ga) ?_
   refine o_allocA O yZ142 fun b11 => sta O O O yS142 O O ?_
   refine asg O O<|lz<|l_q O (qfa 11 rfl yU42 O O yS40)<|l_q O (qld O yA40) ?_
   refine l_q O (qfa 2 rfl yU29 O O yS3)<|l_q O (qld O yA3) ?_
   refine lc1 O O O (RCell_ok pr l x hn8 hO.rng o.n) ?_
   refine mv O O<|l_q O (q_extractL O ga) ?_
   refine l_q O (q_extractL O ga) ?_
   refine o_allocA O yZ142 fun b13 => sta O O O yS142 O O ?_
   refine asg O O<|lz<|l_q O (qlda O yA142 yS142) ?_
   refine l_q O (qlda O yA142 yS142) ?_
   refine l_q O (q_bin O O (g_flat · yG142) fun w => b_eqlFlat w yU142 yH142 (by kernel_rfl) (by kernel_rfl)) ?_
   refine mv O O<|l_pt (t := 100) rfl (fun z1 => ?_) fun z1 => ?_
   ·refine l_on O O<|mv O O<|l_on O O<|lc1 O O O (num8_ok _) ?_
    refine l_on O O<|mv O O<|l_on O O<|l_q O (qi O O (b_eql ·))<|l_q O (q_pk O O)<|asg O O<|lc<|rt<|fr1 O ([rtH pr l x, pt pb (.cells #[.pointer (some ⟨pa, 0, none⟩), .pointer (some ⟨pr, 0, none⟩), .int .i64 l.key, .int .i64 l.elem, .int .i64 l.ka, .int .i64 l.ea, .int .i64 l.cap, .int .i64 l.eo, .int .i64 l.bo, .int .i64 l.slot, .int .i64 l.group, vP] 37 (0, 0)), arenaH pa s]) (.tmp rfl) ?_
    exact ⟨by rw [decT rfl], rfl⟩
   ·exact absurd ((decT rfl).symm.trans z1) (by decide)
  ·refine sr<|l_q O (qi O O (b_eql ·))<|asg O O<|lc<|t_if O (fun k3 => ?_) fun k3 => ?_
   ·refine sr<|l_q O (qfa 0 rfl yU42 O O yS39)<|l_q O (qlda O yA39 yS39) ?_
    refine l_q O (qfa 11 rfl yU42 O O yS40)<|l_q O (qld O yA40) ?_
    refine l_q O (qfa 2 rfl yU29 O O yS3)<|l_q O (qld O yA3) ?_
    refine lc1 O O O (cells8_ok pa pr s hs l hl x hO hov o.n) ?_
    exact asg O O<|lc<|rt<|fr1 O ([rtH pr l x, pt pb (.cells #[.pointer (some ⟨pa, 0, none⟩), .pointer (some ⟨pr, 0, none⟩), .int .i64 l.key, .int .i64 l.elem, .int .i64 l.ka, .int .i64 l.ea, .int .i64 l.cap, .int .i64 l.eo, .int .i64 l.bo, .int .i64 l.slot, .int .i64 l.group, vP] 37 (0, 0)), arenaH pa s]) (.tmp rfl) ⟨rfl, rfl⟩
   ·skip
    have hgo : x.dead = false → x.go ≤ 1000000000 := fun hd => by
     have h1 := goodP.end_le hs (hO.live hd).1.gg
     have h2 := hs.stop_eq
     omega
    cases hd : x.dead with
    | true =>
     obtain ⟨hng, hne⟩ := hO.not hs hd hov
     have hgx : groupX l x o.n = (0, 24) := by unfold groupX; rw [if_pos hd]
     refine t_skip<|n_blk<|nz<|l_q O (qfa 0 rfl yU42 O O yS39)<|l_q O (qlda O yA39 yS39) ?_
     refine l_q O (qfa 2 rfl yU29 O O yS3)<|l_q O (qld O yA3) ?_
     refine lc1 O O O (Group_dead pa x.off s l hng hne hO.place o.n) ?_
     refine mv O O<|l_q O (q_extractL O ga) ?_
     refine l_q O (q_extractL O ga) ?_
     refine o_allocA O yZ182 fun b15 => sta O O O yS182 O O ?_
     refine asg O O<|lz<|l_q O (qfa 11 rfl yU42 O O yS40)<|l_q O (qld O yA40) ?_
     refine l_q O (qfa 2 rfl yU29 O O yS3)<|l_q O (qld O yA3) ?_
     refine lc1 O O O (RGroup_ok pr l x hn8 hO.rng hl hgo o.n) ?_
     rw [hgx]
     refine mv O O<|l_q O (q_extractL O ga) ?_
     refine l_q O (q_extractL O ga) ?_
     refine asg O O<|asg O O<|lc<|t_seq<|sr<|mv O O<|lc1 O O O (num8_ok _) ?_
     refine mv O O<|l_q O (qi O O (b_neq ·))<|lc<|t_if O (fun y1 => ?_) fun y1 => ?_
     ·exact absurd rfl y1
     ·refine t_skip<|n_code<|t_seq<|sr<|mv O O<|l_q O (qi O O (b_neq ·))<|lc<|t_if O (fun y2 => ?_) fun y2 => ?_
      ·exact sr<|asg O O<|lc<|rt<|fr1 O ([rtH pr l x, pt pb (.cells #[.pointer (some ⟨pa, 0, none⟩), .pointer (some ⟨pr, 0, none⟩), .int .i64 l.key, .int .i64 l.elem, .int .i64 l.ka, .int .i64 l.ea, .int .i64 l.cap, .int .i64 l.eo, .int .i64 l.bo, .int .i64 l.slot, .int .i64 l.group, vP] 37 (0, 0)), arenaH pa s]) (.tmp rfl) ⟨rfl, rfl⟩
      ·exact absurd y2 (by decide)
    | false =>
     by_cases hk : o.n < 0 ∨ (x.n : Int) ≤ o.n
     ·have hgx : groupX l x o.n = (0, 60) := by unfold groupX; rw [if_neg (by simp [hd]), if_pos hk]
      refine t_skip<|n_blk<|nz<|l_q O (qfa 0 rfl yU42 O O yS39)<|l_q O (qlda O yA39 yS39) ?_
      refine l_q O (qfa 2 rfl yU29 O O yS3)<|l_q O (qld O yA3) ?_
      refine lc1 O O O (Group_bad pa x.off x.go x.n x.e s l x.T (hO.live hd).1 o.n hk) ?_
      refine mv O O<|l_q O (q_extractL O ga) ?_
      refine l_q O (q_extractL O ga) ?_
      refine o_allocA O yZ182 fun b15 => sta O O O yS182 O O ?_
      refine asg O O<|lz<|l_q O (qfa 11 rfl yU42 O O yS40)<|l_q O (qld O yA40) ?_
      refine l_q O (qfa 2 rfl yU29 O O yS3)<|l_q O (qld O yA3) ?_
      refine lc1 O O O (RGroup_ok pr l x hn8 hO.rng hl hgo o.n) ?_
      rw [hgx]
      refine mv O O<|l_q O (q_extractL O ga) ?_
      refine l_q O (q_extractL O ga) ?_
      refine asg O O<|asg O O<|lc<|t_seq<|sr<|mv O O<|lc1 O O O (num8_ok _) ?_
      refine mv O O<|l_q O (qi O O (b_neq ·))<|lc<|t_if O (fun y1 => ?_) fun y1 => ?_
      ·exact absurd rfl y1
      ·refine t_skip<|n_code<|t_seq<|sr<|mv O O<|l_q O (qi O O (b_neq ·))<|lc<|t_if O (fun y2 => ?_) fun y2 => ?_
       ·exact sr<|asg O O<|lc<|rt<|fr1 O ([rtH pr l x, pt pb (.cells #[.pointer (some ⟨pa, 0, none⟩), .pointer (some ⟨pr, 0, none⟩), .int .i64 l.key, .int .i64 l.elem, .int .i64 l.ka, .int .i64 l.ea, .int .i64 l.cap, .int .i64 l.eo, .int .i64 l.bo, .int .i64 l.slot, .int .i64 l.group, vP] 37 (0, 0)), arenaH pa s]) (.tmp rfl) ⟨rfl, rfl⟩
       ·exact absurd y2 (by decide)
     ·obtain ⟨j, hj⟩ := Int.eq_ofNat_of_zero_le (show 0 ≤ o.n by omega)
      have hP := (hO.live hd).1
      obtain ⟨g1, g2, g3, g4⟩ := hP.grpAt (g := j) (by omega)
      have hg8 := hN.g_eq
      have hgl := hN.g
      have hng8 : goodP s (((x.go + j * gN l : Nat) : Nat) : Int) 8 := goodP.sub g1 (by omega) (by omega) (by omega)
      have hgx : groupX l x o.n = (((x.go + j * gN l : Nat) : Int), 0) := by
       unfold groupX
       rw [if_neg (by simp [hd]), if_neg hk, hj, ← hgl, ← Int.natCast_mul, ← Int.natCast_add]
      have hlc := load_ctrl g2 hN g3
      refine t_skip<|n_blk<|nz<|l_q O (qfa 0 rfl yU42 O O yS39)<|l_q O (qlda O yA39 yS39) ?_
      refine l_q O (qfa 2 rfl yU29 O O yS3)<|l_q O (qld O yA3) ?_
      rw [hj]
      refine lc1 O O O (TGroup_ok pa x.off x.go x.n x.e s l x.T hP j (by omega)) ?_
      refine mv O O<|l_q O (q_extractL O ga) ?_
      refine l_q O (q_extractL O ga) ?_
      refine o_allocA O yZ182 fun b15 => sta O O O yS182 O O ?_
      refine asg O O<|lz<|l_q O (qfa 11 rfl yU42 O O yS40)<|l_q O (qld O yA40) ?_
      refine l_q O (qfa 2 rfl yU29 O O yS3)<|l_q O (qld O yA3) ?_
      refine lc1 O O O (RGroup_ok pr l x hn8 hO.rng hl hgo ((j : Nat) : Int)) ?_
      rw [← hj, hgx]
      refine mv O O<|l_q O (q_extractL O ga) ?_
      refine l_q O (q_extractL O ga) ?_
      refine asg O O<|asg O O<|lc<|t_seq<|sr<|mv O O<|lc1 O O O (num8_ok _) ?_
      refine mv O O<|l_q O (qi O O (b_neq ·))<|lc<|t_if O (fun y1 => ?_) fun y1 => ?_
      ·exact absurd rfl y1
      ·refine t_skip<|n_code<|t_seq<|sr<|mv O O<|l_q O (qi O O (b_neq ·))<|lc<|t_if O (fun y2 => ?_) fun y2 => ?_
       ·exact absurd rfl y2
       ·refine t_skip<|nz<|l_q O (qlda O yA182 yS182) ?_
        refine lc1 O O O (Word_ok pa (x.go + j * gN l) s l (grpC x.T.cells j) hl g1 g2 g3) ?_
        refine mv O O<|l_q O (q_extractL O ga) ?_
        refine l_q O (q_extractL O ga) ?_
        refine asg O O<|asg O O<|lz<|mv O O<|l_q O (q_nilCheck O)<|l_q O (qfa 0 rfl yU37 O O yS31)<|l_q O (qld O yA31) ?_
        refine mv O O ?_
        refine lc1 O O O (Load_okI pa s _ 8 (x.go + j * gN l) 8 rfl rfl (by unfold wid; omega) hng8) ?_
        rw [hlc]
        refine mv O O<|l_q O (q_extractL O ga) ?_
        refine l_q O (q_extractL O ga) ?_
        refine asg O O<|asg O O<|lz<|mv O O<|lc1 O O O (num8_ok _) ?_
        refine l_q O (qi O O (b_eql ·))<|mv O O<|l_pt (t := 154) rfl (fun y3 => ?_) fun y3 => ?_
        ·refine l_on O O<|mv O O<|l_on O O<|lc1 O O O (num8_ok _) ?_
         refine l_on O O<|l_q O (qi O O (b_eql ·))<|l_q O (q_pk O O)<|mv O O<|l_pt (t := 159) rfl (fun y4 => ?_) fun y4 => ?_
         ·refine l_on O O<|mv O O<|l_on O O<|mv O O<|l_on O O<|l_q O (qi O O (b_eql ·))<|l_q O (q_pk O O)<|asg O O<|lc<|rt<|fr1 O ([rtH pr l x, pt pb (.cells #[.pointer (some ⟨pa, 0, none⟩), .pointer (some ⟨pr, 0, none⟩), .int .i64 l.key, .int .i64 l.elem, .int .i64 l.ka, .int .i64 l.ea, .int .i64 l.cap, .int .i64 l.eo, .int .i64 l.bo, .int .i64 l.slot, .int .i64 l.group, vP] 37 (0, 0)), arenaH pa s]) (.tmp rfl) ?_
          exact ⟨by rw [decide_eq_true rfl], rfl⟩
         ·exact absurd rfl y4
        ·exact absurd rfl y3
end
end Go.Proofs.YthkajgkagnenbaaGreatDoor.Exact
