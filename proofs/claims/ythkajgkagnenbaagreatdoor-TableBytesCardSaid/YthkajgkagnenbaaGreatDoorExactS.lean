/- The laws over scripts: a step. -/
import Derived.Test.YthkajgkagnenbaaGreatDoorExact
set_option linter.unusedVariables false
set_option linter.unusedSimpArgs false
set_option linter.unusedSectionVars false
set_option maxRecDepth 100000
namespace Go.Proofs.YthkajgkagnenbaaGreatDoor.Exact
open Go.RowKit Go.Proofs Go.Proofs.YthkajgkagnenbaaGreatDoor.Eng Go.Proofs.YthkajgkagnenbaaGreatDoor.Ty Go.Proofs.YthkajgkagnenbaaGreatDoor.Bits Go.Proofs.YthkajgkagnenbaaGreatDoor.Mem Go.Proofs.YthkajgkagnenbaaGreatDoor.Search Go.Proofs.YthkajgkagnenbaaGreatDoor.Arena Go.Proofs.YthkajgkagnenbaaGreatDoor.CtrlB Go.Proofs.YthkajgkagnenbaaGreatDoor.Ctrl Go.Proofs.YthkajgkagnenbaaGreatDoor.Layout Go.Proofs.YthkajgkagnenbaaGreatDoor.GroupB Go.Proofs.YthkajgkagnenbaaGreatDoor.Group Go.Proofs.YthkajgkagnenbaaGreatDoor.Probe Go.Proofs.YthkajgkagnenbaaGreatDoor.TableB Go.Proofs.YthkajgkagnenbaaGreatDoor.TableI Go.Proofs.YthkajgkagnenbaaGreatDoor.Table Go.Proofs.YthkajgkagnenbaaGreatDoor.Bench Go.Proofs.YthkajgkagnenbaaGreatDoor.Cells Go.Proofs.YthkajgkagnenbaaGreatDoor.Refill Go.Proofs.YthkajgkagnenbaaGreatDoor.RefA Go.Proofs.YthkajgkagnenbaaGreatDoor.RefT Go.Proofs.YthkajgkagnenbaaGreatDoor.Ref03

theorem pair_cell {pa : Nat} {l : Lay} {ps : List PR} {k : Nat} {x : PR} (hx : ps[k]? = some x) (g n cap : Nat) : ∀ j u, (pairC pa l x)[j]? = some u → CellAt (ownS 42 13 (.slice (some ⟨g, 0, none⟩) n cap) n (rowOf (pairC pa l) ps)) ((⟨g, 0 + ((k : Nat) : Int).toNat * 13, none⟩ : Addr).add j) u := fun j u hu => by
 have hj : j < 13 := by rcases Nat.lt_or_ge j 13 with q | q; exact q; rw [List.getElem?_eq_none (by rw [pair13]; exact q)] at hu; cases hu
 rw [add_none, Nat.zero_add, Int.toNat_natCast]
 exact own_cell (by rw [rowOf_get (pair13 pa l) ps k j x hx hj]; exact hu)
theorem chg_all {s s' : ArS} {l : Lay} {x x' : PR} {ps : List PR} {k : Nat} (pa : Nat) (hs : s.ok) (hA : All s l ps) (hx : ps[k]? = some x) (h : Chg s l x s' x') : All s' l (ps.set k x') ∧ pairC pa l x' = pairC pa l x ∧ (ps.set k x').length + deadN (ps.set k x') ≤ ps.length + deadN ps + 1 := by
 cases h with
 | step s' T' h => exact ⟨h.all hs hA hx, rfl, by rw [List.length_set, deadN_same (x' := { x with T := T' }) hx rfl]; omega⟩
 | free hd => exact ⟨hA.free hs hx hd, rfl, by rw [List.length_set]; have := deadN_set ps k { x with dead := true }; omega⟩
section
variable (G : HP) (hG : TabOk G) (pb pa pr : Nat) (l : Lay) (hl : l.err = 0)
include hG hl
theorem plays_ok (s : ArS) (hs : s.ok) (ps : List PR) (vP : Value) (hlen : ps.length ≤ 980000000000) (hA : All s l ps) (i : Int) (o : Op8) (hw : o.wf) : FnOk Tryz.prog 9 #[.pointer (some ⟨pb, 0, none⟩), .int .i64 i, .agg #[.int .i64 o.kind, .int .i64 o.t, .int .i64 o.n, .int .i64 o.m, .int .u64 o.h, .string o.k, .string o.e]] [G, pt pb (.cells #[.pointer (some ⟨pa, 0, none⟩), .pointer (some ⟨pr, 0, none⟩), .int .i64 l.key, .int .i64 l.elem, .int .i64 l.ka, .int .i64 l.ea, .int .i64 l.cap, .int .i64 l.eo, .int .i64 l.bo, .int .i64 l.slot, .int .i64 l.group, vP] 37 (0, 0)), ownS 42 13 vP ps.length (rowOf (pairC pa l) ps), rtsH pr l ps, rarH pr s, arenaH pa s] (fun v L => ∃ s' ps' vP', v = .bool true ∧ L = [G, pt pb (.cells #[.pointer (some ⟨pa, 0, none⟩), .pointer (some ⟨pr, 0, none⟩), .int .i64 l.key, .int .i64 l.elem, .int .i64 l.ka, .int .i64 l.ea, .int .i64 l.cap, .int .i64 l.eo, .int .i64 l.bo, .int .i64 l.slot, .int .i64 l.group, vP'] 37 (0, 0)), ownS 42 13 vP' ps'.length (rowOf (pairC pa l) ps'), rtsH pr l ps', rarH pr s', arenaH pa s'] ∧ All s' l ps' ∧ ps'.length + deadN ps' ≤ ps.length + deadN ps + 1) := by
 refine fn_intro en9 Tryz.func9 rfl rfl rfl fun Fr w0 => t_nm ?_
 refine t_shape (.there (.there .here)) fun _ hvp => ?_
 obtain ⟨a0, cap, rfl, ha, _, _⟩ := hvp
 refine sr<|o_boxA O O fun b5 => asg O O<|lc<|t_seq<|t_block<|sr<|l_q O (qfa 0 rfl yU29 O O yS3)<|l_q O (qld O yA3) ?_
 refine l_q O (qi O O (b_eql ·))<|asg O O<|lc<|t_if O (fun k1 => ?_) fun k1 => ?_
 ·refine sr<|mv O O<|l_q O (qlda O yA29 yS29) ?_
  refine lcf O O O (makes_ok pb pa pr l hl s hs ps (.slice a0 ps.length cap) hlen hA o hw) ?_
  rintro v L' ⟨s', ps', vP', rfl, rfl, hA', hd'⟩
  refine l_nm ?_
  exact asg O O<|lc<|rt<|fr1 O ([G, pt pb (.cells #[.pointer (some ⟨pa, 0, none⟩), .pointer (some ⟨pr, 0, none⟩), .int .i64 l.key, .int .i64 l.elem, .int .i64 l.ka, .int .i64 l.ea, .int .i64 l.cap, .int .i64 l.eo, .int .i64 l.bo, .int .i64 l.slot, .int .i64 l.group, vP'] 37 (0, 0)), ownS 42 13 vP' ps'.length (rowOf (pairC pa l) ps'), rtsH pr l ps', rarH pr s', arenaH pa s']) (.tmp rfl) ⟨s', ps', vP', rfl, rfl, hA', hd'⟩
 ·refine sr<|l_q O (qfa 0 rfl yU29 O O yS3)<|l_q O (qld O yA3) ?_
  refine l_q O (qi O O (b_eql ·))<|asg O O<|lc<|t_if O (fun k2 => ?_) fun k2 => ?_
  ·skip
   rcases alloc_cases pa pr s hs o.n with ⟨c, hc, hp, hr⟩ | ⟨h1, h2, h3, hp, hr⟩
   ·skip
    refine t_seq<|t_draw mixed ?_
    apply dq 0 rfl
    ·exact yq (q_move O)
    apply dq 1 rfl
    ·exact yq (q_nilCheck O)
    apply dq 2 rfl
    ·exact yq (qfa 0 rfl yU37 O O yS31)
    apply dq 3 rfl
    ·exact yq (qld O yA31)
    apply dq 4 rfl
    ·exact yq (qfa 2 rfl yU29 O O yS3)
    apply dq 5 rfl
    ·exact yq (qld O yA3)
    refine d_eff1 [3, 5, 2, 4, 1, 0] [] 6 [(28, _), (30, _)] gO ⟨rfl, rfl, trivial⟩ (by kernel_rfl) (by kernel_rfl) fun Ex => ?_
    refine lc1 O O O (hp) ?_
    refine l_nil ?_
    apply n_d
    ·exact trivial
    apply dq 7 rfl
    ·exact yq (q_move O)
    apply dq 8 rfl
    ·exact yq (q_extractL O ga)
    apply dq 9 rfl
    ·exact yq (q_extractL O ga)
    refine d_eff1 [8, 7] [9] 10 [(32, _)] gO ⟨rfl, trivial⟩ (by kernel_rfl) (by kernel_rfl) fun Ex => ?_
    refine asg O O<|l_nil ?_
    apply n_d
    ·refine ⟨?_, trivial⟩
     ·apply ya O O; exact yq (q_extractL O ga)
    refine d_eff1 [9] [] 11 [(33, _)] gO ⟨rfl, trivial⟩ (by kernel_rfl) (by kernel_rfl) fun Ex => ?_
    refine asg O O<|l_nil ?_
    apply n_d
    ·exact trivial
    refine d_end (by kernel_rfl) ?_
    refine n_code<|t_seq<|t_draw mixed ?_
    apply dq 0 rfl
    ·exact yq (q_move O)
    apply dq 1 rfl
    ·exact yq (q_nilCheck O)
    apply dq 2 rfl
    ·exact yq (qfa 1 rfl yU37 O O yS32)
    apply dq 3 rfl
    ·exact yq (qld O yA32)
    apply dq 4 rfl
    ·exact yq (qfa 2 rfl yU29 O O yS3)
    apply dq 5 rfl
    ·exact yq (qld O yA3)
    refine d_eff1 [3, 5, 2, 4, 1, 0] [] 6 [(38, _), (40, _)] gO ⟨rfl, rfl, trivial⟩ (by kernel_rfl) (by kernel_rfl) fun Ex => ?_
    refine lc1 O O O (hr) ?_
    refine l_nil ?_
    apply n_d
    ·exact trivial
    apply dq 7 rfl
    ·exact yq (q_move O)
    apply dq 8 rfl
    ·exact yq (q_extractL O ga)
    apply dq 9 rfl
    ·exact yq (q_extractL O ga)
    refine d_eff1 [8, 7] [9] 10 [(42, _)] gO ⟨rfl, trivial⟩ (by kernel_rfl) (by kernel_rfl) fun Ex => ?_
    refine asg O O<|l_nil ?_
    apply n_d
    ·refine ⟨?_, trivial⟩
     ·apply ya O O; exact yq (q_extractL O ga)
    refine d_eff1 [9] [] 11 [(43, _)] gO ⟨rfl, trivial⟩ (by kernel_rfl) (by kernel_rfl) fun Ex => ?_
    refine asg O O<|l_nil ?_
    apply n_d
    ·exact trivial
    refine d_end (by kernel_rfl) ?_
    refine n_code<|t_seq<|sr<|mv O O<|l_q O (qi O O (b_eql ·))<|lc<|t_if O (fun z => ?_) fun z => ?_
    ·exact absurd z hc
    ·refine t_skip<|nz<|mv O O<|mv O O<|l_q O (qi O O (b_eql ·))<|mv O O<|l_pt (t := 51) rfl (fun z1 => ?_) fun z1 => ?_
     ·refine l_on O O<|mv O O<|l_on O O<|lc1 O O O (num8_ok _) ?_
      refine l_on O O<|mv O O<|l_on O O<|l_q O (qi O O (b_eql ·))<|l_q O (q_pk O O)<|asg O O<|lc<|rt<|fr1 O ([G, pt pb (.cells #[.pointer (some ⟨pa, 0, none⟩), .pointer (some ⟨pr, 0, none⟩), .int .i64 l.key, .int .i64 l.elem, .int .i64 l.ka, .int .i64 l.ea, .int .i64 l.cap, .int .i64 l.eo, .int .i64 l.bo, .int .i64 l.slot, .int .i64 l.group, (.slice a0 ps.length cap)] 37 (0, 0)), ownS 42 13 (.slice a0 ps.length cap) ps.length (rowOf (pairC pa l) ps), rtsH pr l ps, rarH pr s, arenaH pa s]) (.tmp rfl) ?_
      exact ⟨s, ps, (.slice a0 ps.length cap), by rw [decT rfl], rfl, hA, by omega⟩
     ·exact absurd rfl z1
   ·skip
    have hA2 : All (s.take (classI o.n)) l (ps.map overP) := hA.over (fun p hp => (take_bl hs).2 (.inl hp)) (fun p hp a ha hb => take_keep hs (by have := classI_bnd h1; omega) hp ha hb)
    refine t_seq<|t_draw mixed ?_
    apply dq 0 rfl
    ·exact yq (q_move O)
    apply dq 1 rfl
    ·exact yq (q_nilCheck O)
    apply dq 2 rfl
    ·exact yq (qfa 0 rfl yU37 O O yS31)
    apply dq 3 rfl
    ·exact yq (qld O yA31)
    apply dq 4 rfl
    ·exact yq (qfa 2 rfl yU29 O O yS3)
    apply dq 5 rfl
    ·exact yq (qld O yA3)
    refine d_eff1 [3, 5, 2, 4, 1, 0] [] 6 [(28, _), (30, _)] gO ⟨rfl, rfl, trivial⟩ (by kernel_rfl) (by kernel_rfl) fun Ex => ?_
    refine lc1 O O O (hp) ?_
    refine l_nil ?_
    apply n_d
    ·exact trivial
    apply dq 7 rfl
    ·exact yq (q_move O)
    apply dq 8 rfl
    ·exact yq (q_extractL O ga)
    apply dq 9 rfl
    ·exact yq (q_extractL O ga)
    refine d_eff1 [8, 7] [9] 10 [(32, _)] gO ⟨rfl, trivial⟩ (by kernel_rfl) (by kernel_rfl) fun Ex => ?_
    refine asg O O<|l_nil ?_
    apply n_d
    ·refine ⟨?_, trivial⟩
     ·apply ya O O; exact yq (q_extractL O ga)
    refine d_eff1 [9] [] 11 [(33, _)] gO ⟨rfl, trivial⟩ (by kernel_rfl) (by kernel_rfl) fun Ex => ?_
    refine asg O O<|l_nil ?_
    apply n_d
    ·exact trivial
    refine d_end (by kernel_rfl) ?_
    refine n_code<|t_seq<|t_draw mixed ?_
    apply dq 0 rfl
    ·exact yq (q_move O)
    apply dq 1 rfl
    ·exact yq (q_nilCheck O)
    apply dq 2 rfl
    ·exact yq (qfa 1 rfl yU37 O O yS32)
    apply dq 3 rfl
    ·exact yq (qld O yA32)
    apply dq 4 rfl
    ·exact yq (qfa 2 rfl yU29 O O yS3)
    apply dq 5 rfl
    ·exact yq (qld O yA3)
    refine d_eff1 [3, 5, 2, 4, 1, 0] [] 6 [(38, _), (40, _)] gO ⟨rfl, rfl, trivial⟩ (by kernel_rfl) (by kernel_rfl) fun Ex => ?_
    refine lc1 O O O (hr) ?_
    refine l_nil ?_
    apply n_d
    ·exact trivial
    apply dq 7 rfl
    ·exact yq (q_move O)
    apply dq 8 rfl
    ·exact yq (q_extractL O ga)
    apply dq 9 rfl
    ·exact yq (q_extractL O ga)
    refine d_eff1 [8, 7] [9] 10 [(42, _)] gO ⟨rfl, trivial⟩ (by kernel_rfl) (by kernel_rfl) fun Ex => ?_
    refine asg O O<|l_nil ?_
    apply n_d
    ·refine ⟨?_, trivial⟩
     ·apply ya O O; exact yq (q_extractL O ga)
    refine d_eff1 [9] [] 11 [(43, _)] gO ⟨rfl, trivial⟩ (by kernel_rfl) (by kernel_rfl) fun Ex => ?_
    refine asg O O<|l_nil ?_
    apply n_d
    ·exact trivial
    refine d_end (by kernel_rfl) ?_
    refine n_code<|t_seq<|sr<|mv O O<|l_q O (qi O O (b_eql ·))<|lc<|t_if O (fun z => ?_) fun z => ?_
    ·refine t_region<|mv O O<|lcf O O O (over_ok pb pa pr l ps (.slice a0 ps.length cap) (by omega)) ?_
     rintro v L' rfl
     refine l_nm ?_
     refine lz<|mv O O<|mv O O<|l_q O (qi O O (b_eql ·))<|mv O O<|l_pt (t := 51) rfl (fun z1 => ?_) fun z1 => ?_
     ·refine l_on O O<|mv O O<|l_on O O<|lc1 O O O (num8_ok _) ?_
      refine l_on O O<|mv O O<|l_on O O<|l_q O (qi O O (b_eql ·))<|l_q O (q_pk O O)<|asg O O<|lc<|rt<|fr1 O ([G, pt pb (.cells #[.pointer (some ⟨pa, 0, none⟩), .pointer (some ⟨pr, 0, none⟩), .int .i64 l.key, .int .i64 l.elem, .int .i64 l.ka, .int .i64 l.ea, .int .i64 l.cap, .int .i64 l.eo, .int .i64 l.bo, .int .i64 l.slot, .int .i64 l.group, (.slice a0 ps.length cap)] 37 (0, 0)), ownS 42 13 (.slice a0 ps.length cap) ps.length (rowOf (pairC pa l) (ps.map overP)), rtsH pr l ps, rarH pr (s.take (classI o.n)), arenaH pa (s.take (classI o.n))]) (.tmp rfl) ?_
      exact ⟨s.take (classI o.n), ps.map overP, (.slice a0 ps.length cap), by rw [decT rfl], by rw [List.length_map, rts_over], hA2, by rw [List.length_map, deadN_over]; omega⟩
     ·exact absurd rfl z1
    ·exact absurd rfl z
  ·refine sr<|l_q O (qfa 0 rfl yU29 O O yS3)<|l_q O (qld O yA3) ?_
   refine l_q O (qi O O (b_lss ·))<|mv O O<|l_pt (t := 61) rfl (fun q1 => ?_) fun q1 => ?_
   ·refine l_off O O O O<|l_off O O O O<|l_off O O O O<|l_q O (q_pk O O)<|mv O O<|l_off O O O O<|l_off O O O O<|l_off O O O O<|l_off O O O O<|l_off O O O O<|l_off O O O O<|l_q O (q_pk O O)<|asg O O<|lc<|t_cond_t O<|sr<|asg O O<|lc<|rt<|fr1 O ([G, pt pb (.cells #[.pointer (some ⟨pa, 0, none⟩), .pointer (some ⟨pr, 0, none⟩), .int .i64 l.key, .int .i64 l.elem, .int .i64 l.ka, .int .i64 l.ea, .int .i64 l.cap, .int .i64 l.eo, .int .i64 l.bo, .int .i64 l.slot, .int .i64 l.group, (.slice a0 ps.length cap)] 37 (0, 0)), ownS 42 13 (.slice a0 ps.length cap) ps.length (rowOf (pairC pa l) ps), rtsH pr l ps, rarH pr s, arenaH pa s]) (.tmp rfl) ?_
    exact ⟨s, ps, (.slice a0 ps.length cap), rfl, rfl, hA, by omega⟩
   ·refine l_on O O<|l_q O (qfa 0 rfl yU29 O O yS3)<|l_on O O<|l_q O (qld O yA3) ?_
    refine l_on O O<|l_q O (qi O O (b_gtr ·))<|l_q O (q_pk O O)<|mv O O<|l_pt (t := 66) rfl (fun q2 => ?_) fun q2 => ?_
    ·refine l_off O O O O<|l_off O O O O<|l_off O O O O<|l_off O O O O<|l_off O O O O<|l_off O O O O<|l_q O (q_pk O O)<|asg O O<|lc<|t_cond_t O<|sr<|asg O O<|lc<|rt<|fr1 O ([G, pt pb (.cells #[.pointer (some ⟨pa, 0, none⟩), .pointer (some ⟨pr, 0, none⟩), .int .i64 l.key, .int .i64 l.elem, .int .i64 l.ka, .int .i64 l.ea, .int .i64 l.cap, .int .i64 l.eo, .int .i64 l.bo, .int .i64 l.slot, .int .i64 l.group, (.slice a0 ps.length cap)] 37 (0, 0)), ownS 42 13 (.slice a0 ps.length cap) ps.length (rowOf (pairC pa l) ps), rtsH pr l ps, rarH pr s, arenaH pa s]) (.tmp rfl) ?_
     exact ⟨s, ps, (.slice a0 ps.length cap), rfl, rfl, hA, by omega⟩
    ·refine l_on O O<|mv O O<|l_on O O<|l_q O (q_nilCheck O)<|l_on O O<|l_q O (qfa 11 rfl yU37 O O yS35)<|l_on O O<|l_q O (qld O yA35) ?_
     refine l_on O O<|l_q O (ql O yU35)<|l_on O O<|l_q O (qi O O (b_eql ·))<|l_q O (q_pk O O)<|asg O O<|lc<|t_if O (fun q3 => ?_) fun q3 => ?_
     ·refine sr<|asg O O<|lc<|rt<|fr1 O ([G, pt pb (.cells #[.pointer (some ⟨pa, 0, none⟩), .pointer (some ⟨pr, 0, none⟩), .int .i64 l.key, .int .i64 l.elem, .int .i64 l.ka, .int .i64 l.ea, .int .i64 l.cap, .int .i64 l.eo, .int .i64 l.bo, .int .i64 l.slot, .int .i64 l.group, (.slice a0 ps.length cap)] 37 (0, 0)), ownS 42 13 (.slice a0 ps.length cap) ps.length (rowOf (pairC pa l) ps), rtsH pr l ps, rarH pr s, arenaH pa s]) (.tmp rfl) ?_
      exact ⟨s, ps, (.slice a0 ps.length cap), rfl, rfl, hA, by omega⟩
     ·obtain ⟨g0, rfl⟩ := ha (by omega)
      have htm1 := Int.tmod_lt_of_pos o.t (show (0 : Int) < (ps.length : Int) by omega)
      have htm2 := Int.lt_tmod_of_pos o.t (show (0 : Int) < (ps.length : Int) by omega)
      refine t_skip<|n_blk<|n_code<|t_seq<|t_draw mixed ?_
      apply dq 0 rfl
      ·exact yq (qfa 1 rfl yU29 O O yS3)
      apply dq 1 rfl
      ·exact yq (qld O yA3)
      apply dq 2 rfl
      ·exact yq (q_move O)
      apply dq 3 rfl
      ·exact yq (q_nilCheck O)
      apply dq 4 rfl
      ·exact yq (qfa 11 rfl yU37 O O yS35)
      apply dq 5 rfl
      ·exact yq (qld O yA35)
      apply dq 6 rfl
      ·exact yq (ql O yU35)
      apply dq 7 rfl
      ·exact yq (qrem O O)
      refine d_eff1 [7, 0, 1, 2, 3, 4, 5, 6] [] 8 [(81, _)] gO ⟨rfl, trivial⟩ (by kernel_rfl) (by kernel_rfl) fun Ex => ?_
      refine asg O O<|l_nil ?_
      apply n_d
      ·exact trivial
      refine d_end (by kernel_rfl) ?_
      refine n_code<|t_seq<|sr<|mv O O<|l_q O (qi O O (b_lss ·))<|lc ?_
      apply t_cut (p := (fun k : Nat => k < ps.length)) (EE := (fun k => [(0, .pointer (some ⟨pb, 0, none⟩)), (1, .int .i64 i), (5, .pointer (some ⟨b5, 0, none⟩)), (11, .int .i64 (k : Nat))])) (LL := (fun _ => pt b5 (.cells #[.int .i64 o.kind, .int .i64 o.t, .int .i64 o.n, .int .i64 o.m, .int .u64 o.h, .string o.k, .string o.e] 29 (0, 0)) :: G :: pt pb (.cells #[.pointer (some ⟨pa, 0, none⟩), .pointer (some ⟨pr, 0, none⟩), .int .i64 l.key, .int .i64 l.elem, .int .i64 l.ka, .int .i64 l.ea, .int .i64 l.cap, .int .i64 l.eo, .int .i64 l.bo, .int .i64 l.slot, .int .i64 l.group, (.slice (some ⟨g0, 0, none⟩) ps.length cap)] 37 (0, 0)) :: ownS 42 13 (.slice (some ⟨g0, 0, none⟩) ps.length cap) ps.length (rowOf (pairC pa l) ps) :: rtsH pr l ps :: rarH pr s :: arenaH pa s :: Fr))
      refine t_if O (fun n1 => ?_) fun n1 => ?_
      ·refine t_region<|mv O O<|mv O O<|l_q O (q_nilCheck O)<|l_q O (qfa 11 rfl yU37 O O yS35)<|l_q O (qld O yA35) ?_
       refine l_q O (ql O yU35)<|l_q O (qadd O O) ?_
       refine asg O O<|l_nil ?_
       apply n_join ((o.t.tmod (ps.length : Int) + (ps.length : Int)).toNat)
       ·exact (by omega)
       ·exact ⟨rfl, rfl, rfl, by rw [Int.toNat_of_nonneg (by omega)]; rfl, trivial⟩
       ·exact en
      ·refine t_skip ?_
       apply n_join ((o.t.tmod (ps.length : Int)).toNat)
       ·exact (by omega)
       ·exact ⟨rfl, rfl, rfl, by rw [Int.toNat_of_nonneg (by omega)]; rfl, trivial⟩
       ·exact en
      rintro k hk; obtain ⟨x, hx⟩ : ∃ x, ps[k]? = some x := ⟨ps[k], List.getElem?_eq_getElem hk⟩
      try dsimp only
      refine n_nm ?_
      refine nz<|mv O O<|l_q O (q_nilCheck O)<|l_q O (qfa 11 rfl yU37 O O yS35)<|l_q O (qld O yA35) ?_
      refine mv O O<|l_q O (q_indexAddr O O yU35 yS42 (by omega)) ?_
      apply l_q O
      ·apply q_loadRA (A := ownS 42 13 (.slice (some ⟨g0, 0, none⟩) ps.length cap) ps.length (rowOf (pairC pa l) ps)) (us := [.pointer (some ⟨pa, 0, none⟩), .int .i64 l.key, .int .i64 l.elem, .int .i64 l.ka, .int .i64 l.ea, .int .i64 l.cap, .int .i64 l.eo, .int .i64 l.bo, .int .i64 l.slot, .int .i64 l.group, .int .i64 (x.off : Nat), .pointer (some ⟨x.p, 0, none⟩), .bool x.over]) rfl yA42 yS42 O
       ·exact tk
       ·exact pair_cell hx _ _ _
      refine o_allocA O yZ42 fun b12 => sta O O O yS42 O O ?_
      refine lc<|t_seq<|sr<|l_q O (qfa 12 rfl yU42 O O yS4)<|l_q O (qld O yA4) ?_
      refine lc<|t_if O (fun q4 => ?_) fun q4 => ?_
      ·refine sr<|asg O O<|lc<|rt<|fr1 O ([G, pt pb (.cells #[.pointer (some ⟨pa, 0, none⟩), .pointer (some ⟨pr, 0, none⟩), .int .i64 l.key, .int .i64 l.elem, .int .i64 l.ka, .int .i64 l.ea, .int .i64 l.cap, .int .i64 l.eo, .int .i64 l.bo, .int .i64 l.slot, .int .i64 l.group, (.slice (some ⟨g0, 0, none⟩) ps.length cap)] 37 (0, 0)), ownS 42 13 (.slice (some ⟨g0, 0, none⟩) ps.length cap) ps.length (rowOf (pairC pa l) ps), rtsH pr l ps, rarH pr s, arenaH pa s]) (.tmp rfl) ?_
       exact ⟨s, ps, (.slice (some ⟨g0, 0, none⟩) ps.length cap), rfl, rfl, hA, by omega⟩
      ·refine t_ent (L' := pt b12 (.cells #[.pointer (some ⟨pa, 0, none⟩), .int .i64 l.key, .int .i64 l.elem, .int .i64 l.ka, .int .i64 l.ea, .int .i64 l.cap, .int .i64 l.eo, .int .i64 l.bo, .int .i64 l.slot, .int .i64 l.group, .int .i64 (x.off : Nat), .pointer (some ⟨x.p, 0, none⟩), .bool x.over] 42 (0, 0)) :: pt b5 (.cells #[.int .i64 o.kind, .int .i64 o.t, .int .i64 o.n, .int .i64 o.m, .int .u64 o.h, .string o.k, .string o.e] 29 (0, 0)) :: G :: pt pb (.cells #[.pointer (some ⟨pa, 0, none⟩), .pointer (some ⟨pr, 0, none⟩), .int .i64 l.key, .int .i64 l.elem, .int .i64 l.ka, .int .i64 l.ea, .int .i64 l.cap, .int .i64 l.eo, .int .i64 l.bo, .int .i64 l.slot, .int .i64 l.group, (.slice (some ⟨g0, 0, none⟩) ps.length cap)] 37 (0, 0)) :: ownS 42 13 (.slice (some ⟨g0, 0, none⟩) ps.length cap) ps.length (rowOf (pairC pa l) ps) :: rtH pr l x :: rtsH pr l (ps.eraseIdx k) :: rarH pr s :: arenaH pa s :: Fr) (fun w h => ?_) ?_
       ·have h2 := (show Ent _ (rtsH pr l ps :: pt b12 (.cells #[.pointer (some ⟨pa, 0, none⟩), .int .i64 l.key, .int .i64 l.elem, .int .i64 l.ka, .int .i64 l.ea, .int .i64 l.cap, .int .i64 l.eo, .int .i64 l.bo, .int .i64 l.slot, .int .i64 l.group, .int .i64 (x.off : Nat), .pointer (some ⟨x.p, 0, none⟩), .bool x.over] 42 (0, 0)) :: pt b5 (.cells #[.int .i64 o.kind, .int .i64 o.t, .int .i64 o.n, .int .i64 o.m, .int .u64 o.h, .string o.k, .string o.e] 29 (0, 0)) :: G :: pt pb (.cells #[.pointer (some ⟨pa, 0, none⟩), .pointer (some ⟨pr, 0, none⟩), .int .i64 l.key, .int .i64 l.elem, .int .i64 l.ka, .int .i64 l.ea, .int .i64 l.cap, .int .i64 l.eo, .int .i64 l.bo, .int .i64 l.slot, .int .i64 l.group, (.slice (some ⟨g0, 0, none⟩) ps.length cap)] 37 (0, 0)) :: ownS 42 13 (.slice (some ⟨g0, 0, none⟩) ps.length cap) ps.length (rowOf (pairC pa l) ps) :: rarH pr s :: arenaH pa s :: Fr) by (exact en)) w h
        exact (show Ent (rtH pr l x :: rtsH pr l (ps.eraseIdx k) :: _) _ by (exact en)) w (rts_open hx w h2)
       refine rt_open (.there (.there (.there (.there (.there .here))))) fun vc => ?_
       refine t_skip<|n_code<|t_seq<|sr<|mv O O<|l_q O (qrem O O) ?_
       refine l_q O (qi O O (b_eql ·))<|lc ?_
       apply t_cut (p := (fun _ : Unit => True)) (EE := (fun _ => [(0, .pointer (some ⟨pb, 0, none⟩)), (5, .pointer (some ⟨b5, 0, none⟩)), (12, .pointer (some ⟨b12, 0, none⟩))])) (LL := (fun _ => pt b12 (.cells #[.pointer (some ⟨pa, 0, none⟩), .int .i64 l.key, .int .i64 l.elem, .int .i64 l.ka, .int .i64 l.ea, .int .i64 l.cap, .int .i64 l.eo, .int .i64 l.bo, .int .i64 l.slot, .int .i64 l.group, .int .i64 (x.off : Nat), .pointer (some ⟨x.p, 0, none⟩), .bool x.over] 42 (0, 0)) :: pt b5 (.cells #[.int .i64 o.kind, .int .i64 o.t, .int .i64 o.n, .int .i64 o.m, .int .u64 o.h, .string o.k, .string o.e] 29 (0, 0)) :: G :: pt pb (.cells #[.pointer (some ⟨pa, 0, none⟩), .pointer (some ⟨pr, 0, none⟩), .int .i64 l.key, .int .i64 l.elem, .int .i64 l.ka, .int .i64 l.ea, .int .i64 l.cap, .int .i64 l.eo, .int .i64 l.bo, .int .i64 l.slot, .int .i64 l.group, (.slice (some ⟨g0, 0, none⟩) ps.length cap)] 37 (0, 0)) :: ownS 42 13 (.slice (some ⟨g0, 0, none⟩) ps.length cap) ps.length (rowOf (pairC pa l) ps) :: pt x.p (.cells #[.pointer (some ⟨pr, 0, none⟩), .int .i64 l.key, .int .i64 l.elem, .int .i64 l.ka, .int .i64 l.ea, .int .i64 l.cap, .int .i64 l.eo, .int .i64 l.bo, .int .i64 l.slot, .int .i64 l.group, .int .i64 (x.off : Nat), .int .i64 (x.go : Nat), .int .i64 x.T.used, .int .i64 x.T.left, .int .i64 x.T.depth, .int .i64 x.T.pins, .int .i64 x.T.next, .bool (decide (x.T.kind = 4)), .bool x.dead, vc] 45 (0, 0)) :: ownS 142 5 vc (8 * x.n) (rowOf cellV (firstL x.T.cells (8 * x.n))) :: rtsH pr l (ps.eraseIdx k) :: rarH pr s :: arenaH pa s :: Fr))
       refine t_if O (fun q5 => ?_) fun q5 => ?_
       ·refine t_draw mixed ?_
        apply dq 0 rfl
        ·exact yq (q_move O)
        apply dq 1 rfl
        ·exact yq (q_nilCheck O)
        apply dq 2 rfl
        ·exact yq (qfa 0 rfl yU37 O O yS31)
        apply dq 3 rfl
        ·exact yq (qld O yA31)
        apply dq 4 rfl
        ·exact yq (q_move O)
        apply dq 5 rfl
        ·exact yq (q_nilCheck O)
        apply dq 6 rfl
        ·exact yq (qfa 2 rfl yU37 O O yS34)
        apply dq 7 rfl
        ·exact yq (qlda O yA34 yS34)
        apply dq 8 rfl
        ·exact yq (qfa 11 rfl yU42 O O yS40)
        apply dq 9 rfl
        ·exact yq (qld O yA40)
        apply dq 10 rfl
        ·exact yq (q_nilCheck O)
        apply dq 11 rfl
        ·exact yq (qfa 10 rfl yU45 O O yS3)
        apply dq 12 rfl
        ·exact yq (qld O yA3)
        refine d_eff1 [3, 7, 12, 2, 6, 11, 1, 5, 10, 0, 4, 9, 8] [] 13 [(106, _), (110, _), (115, _)] gO ⟨rfl, rfl, rfl, trivial⟩ (by kernel_rfl) (by kernel_rfl) fun Ex => ?_
        refine lc1 O O O (At8_ok pa l ((x.off : Nat) : Int)) ?_
        refine l_nil ?_
        apply n_d
        ·exact trivial
        apply dq 14 rfl
        ·exact yq (qfa 0 rfl yU42 O O yS39)
        refine d_eff1 [14] [] 15 [(117, _), (116, _)] gO ⟨rfl, rfl, trivial⟩ (by kernel_rfl) (by kernel_rfl) fun Ex => ?_
        refine sta O O O yS39 O O ?_
        refine l_nil ?_
        apply n_d
        ·exact trivial
        refine d_end (by kernel_rfl) ?_
        apply n_join (())
        ·exact trivial
        ·exact ⟨rfl, rfl, rfl, trivial⟩
        ·exact en
       ·refine t_skip ?_
        apply n_join (())
        ·exact trivial
        ·exact ⟨rfl, rfl, rfl, trivial⟩
        ·exact en
       rintro _ -
       try dsimp only
       refine n_nm ?_
       refine n_code<|t_seq<|sr<|l_q O (qfa 0 rfl yU29 O O yS3)<|l_q O (qld O yA3) ?_
       refine lc<|t_block<|t_seq<|sr<|l_q O (qi O O (b_eql ·))<|asg O O<|lc ?_
       refine t_ent (L' := pt b12 (.cells #[.pointer (some ⟨pa, 0, none⟩), .int .i64 l.key, .int .i64 l.elem, .int .i64 l.ka, .int .i64 l.ea, .int .i64 l.cap, .int .i64 l.eo, .int .i64 l.bo, .int .i64 l.slot, .int .i64 l.group, .int .i64 (x.off : Nat), .pointer (some ⟨x.p, 0, none⟩), .bool x.over] 42 (0, 0)) :: pt b5 (.cells #[.int .i64 o.kind, .int .i64 o.t, .int .i64 o.n, .int .i64 o.m, .int .u64 o.h, .string o.k, .string o.e] 29 (0, 0)) :: G :: pt pb (.cells #[.pointer (some ⟨pa, 0, none⟩), .pointer (some ⟨pr, 0, none⟩), .int .i64 l.key, .int .i64 l.elem, .int .i64 l.ka, .int .i64 l.ea, .int .i64 l.cap, .int .i64 l.eo, .int .i64 l.bo, .int .i64 l.slot, .int .i64 l.group, (.slice (some ⟨g0, 0, none⟩) ps.length cap)] 37 (0, 0)) :: ownS 42 13 (.slice (some ⟨g0, 0, none⟩) ps.length cap) ps.length (rowOf (pairC pa l) ps) :: rtH pr l x :: rtsH pr l (ps.eraseIdx k) :: rarH pr s :: arenaH pa s :: Fr) (fun w h => (show Ent (rtH pr l x :: _) _ by (exact en)) w (rt_close vc (show Ent _ (pt x.p (.cells #[.pointer (some ⟨pr, 0, none⟩), .int .i64 l.key, .int .i64 l.elem, .int .i64 l.ka, .int .i64 l.ea, .int .i64 l.cap, .int .i64 l.eo, .int .i64 l.bo, .int .i64 l.slot, .int .i64 l.group, .int .i64 (x.off : Nat), .int .i64 (x.go : Nat), .int .i64 x.T.used, .int .i64 x.T.left, .int .i64 x.T.depth, .int .i64 x.T.pins, .int .i64 x.T.next, .bool (decide (x.T.kind = 4)), .bool x.dead, vc] 45 (0, 0)) :: ownS 142 5 vc (8 * x.n) (rowOf cellV (firstL x.T.cells (8 * x.n))) :: pt b12 (.cells #[.pointer (some ⟨pa, 0, none⟩), .int .i64 l.key, .int .i64 l.elem, .int .i64 l.ka, .int .i64 l.ea, .int .i64 l.cap, .int .i64 l.eo, .int .i64 l.bo, .int .i64 l.slot, .int .i64 l.group, .int .i64 (x.off : Nat), .pointer (some ⟨x.p, 0, none⟩), .bool x.over] 42 (0, 0)) :: pt b5 (.cells #[.int .i64 o.kind, .int .i64 o.t, .int .i64 o.n, .int .i64 o.m, .int .u64 o.h, .string o.k, .string o.e] 29 (0, 0)) :: G :: pt pb (.cells #[.pointer (some ⟨pa, 0, none⟩), .pointer (some ⟨pr, 0, none⟩), .int .i64 l.key, .int .i64 l.elem, .int .i64 l.ka, .int .i64 l.ea, .int .i64 l.cap, .int .i64 l.eo, .int .i64 l.bo, .int .i64 l.slot, .int .i64 l.group, (.slice (some ⟨g0, 0, none⟩) ps.length cap)] 37 (0, 0)) :: ownS 42 13 (.slice (some ⟨g0, 0, none⟩) ps.length cap) ps.length (rowOf (pairC pa l) ps) :: rtsH pr l (ps.eraseIdx k) :: rarH pr s :: arenaH pa s :: Fr) by (exact en)) w h)) ?_
       apply t_cut (p := (fun _ : Bool => True)) (EE := (fun b => [(0, .pointer (some ⟨pb, 0, none⟩)), (5, .pointer (some ⟨b5, 0, none⟩)), (12, .pointer (some ⟨b12, 0, none⟩)), (119, .int .i64 o.kind), (120, .bool b)])) (LL := (fun _ => pt b12 (.cells #[.pointer (some ⟨pa, 0, none⟩), .int .i64 l.key, .int .i64 l.elem, .int .i64 l.ka, .int .i64 l.ea, .int .i64 l.cap, .int .i64 l.eo, .int .i64 l.bo, .int .i64 l.slot, .int .i64 l.group, .int .i64 (x.off : Nat), .pointer (some ⟨x.p, 0, none⟩), .bool x.over] 42 (0, 0)) :: pt b5 (.cells #[.int .i64 o.kind, .int .i64 o.t, .int .i64 o.n, .int .i64 o.m, .int .u64 o.h, .string o.k, .string o.e] 29 (0, 0)) :: G :: pt pb (.cells #[.pointer (some ⟨pa, 0, none⟩), .pointer (some ⟨pr, 0, none⟩), .int .i64 l.key, .int .i64 l.elem, .int .i64 l.ka, .int .i64 l.ea, .int .i64 l.cap, .int .i64 l.eo, .int .i64 l.bo, .int .i64 l.slot, .int .i64 l.group, (.slice (some ⟨g0, 0, none⟩) ps.length cap)] 37 (0, 0)) :: ownS 42 13 (.slice (some ⟨g0, 0, none⟩) ps.length cap) ps.length (rowOf (pairC pa l) ps) :: rtH pr l x :: rtsH pr l (ps.eraseIdx k) :: rarH pr s :: arenaH pa s :: Fr))
       refine t_if O (fun a1 => ?_) fun a1 => ?_
       ·refine t_skip ?_
        apply n_join ((decide (o.kind = 2)))
        ·exact trivial
        ·exact ⟨rfl, rfl, rfl, rfl, rfl, trivial⟩
        ·exact en
       ·refine sr<|l_q O (qi O O (b_eql ·))<|asg O O<|lc<|t_if O (fun a2 => ?_) fun a2 => ?_
        ·refine t_skip ?_
         apply n_join ((decide (o.kind = 3)))
         ·exact trivial
         ·exact ⟨rfl, rfl, rfl, rfl, rfl, trivial⟩
         ·exact en
        ·refine t_region<|l_q O (qi O O (b_eql ·))<|asg O O<|l_nil ?_
         apply n_join ((decide (o.kind = 4)))
         ·exact trivial
         ·exact ⟨rfl, rfl, rfl, rfl, rfl, trivial⟩
         ·exact en
       rintro bS -
       try dsimp only
       refine n_nm ?_
       refine n_code<|t_if O (fun w1 => ?_) fun w1 => ?_
       ·refine sr<|l_q O (qlda O yA42 yS42) ?_
        refine l_q O (qlda O yA29 yS29) ?_
        refine lc1 O O O (searches_ok G hG pa pr s hs l hl x (hA.at hx) (by simpa using q4) o hw) ?_
        refine asg O O<|lc<|rt ?_
        apply f_ret (.inl rfl) ([G, pt pb (.cells #[.pointer (some ⟨pa, 0, none⟩), .pointer (some ⟨pr, 0, none⟩), .int .i64 l.key, .int .i64 l.elem, .int .i64 l.ka, .int .i64 l.ea, .int .i64 l.cap, .int .i64 l.eo, .int .i64 l.bo, .int .i64 l.slot, .int .i64 l.group, (.slice (some ⟨g0, 0, none⟩) ps.length cap)] 37 (0, 0)), ownS 42 13 (.slice (some ⟨g0, 0, none⟩) ps.length cap) ps.length (rowOf (pairC pa l) ps), rtsH pr l ps, rarH pr s, arenaH pa s])
        ·apply res1 O
         ·exact .tmp rfl
        ·exact ⟨s, ps, (.slice (some ⟨g0, 0, none⟩) ps.length cap), rfl, rfl, hA, by omega⟩
        ·intro w h; have h2 := rts_close hk w ((show Ent _ (rtH pr l x :: rtsH pr l (ps.eraseIdx k) :: G :: pt pb (.cells #[.pointer (some ⟨pa, 0, none⟩), .pointer (some ⟨pr, 0, none⟩), .int .i64 l.key, .int .i64 l.elem, .int .i64 l.ka, .int .i64 l.ea, .int .i64 l.cap, .int .i64 l.eo, .int .i64 l.bo, .int .i64 l.slot, .int .i64 l.group, (.slice (some ⟨g0, 0, none⟩) ps.length cap)] 37 (0, 0)) :: ownS 42 13 (.slice (some ⟨g0, 0, none⟩) ps.length cap) ps.length (rowOf (pairC pa l) ps) :: rarH pr s :: arenaH pa s :: Fr) by (exact en)) w h); rw [set_same hx] at h2; exact (show Ent (rtsH pr l ps :: G :: pt pb (.cells #[.pointer (some ⟨pa, 0, none⟩), .pointer (some ⟨pr, 0, none⟩), .int .i64 l.key, .int .i64 l.elem, .int .i64 l.ka, .int .i64 l.ea, .int .i64 l.cap, .int .i64 l.eo, .int .i64 l.bo, .int .i64 l.slot, .int .i64 l.group, (.slice (some ⟨g0, 0, none⟩) ps.length cap)] 37 (0, 0)) :: ownS 42 13 (.slice (some ⟨g0, 0, none⟩) ps.length cap) ps.length (rowOf (pairC pa l) ps) :: rarH pr s :: arenaH pa s :: Fr) _ by (exact en)) w h2
       ·refine t_seq<|sr<|l_q O (qi O O (b_eql ·))<|asg O O<|lc ?_
        apply t_cut (p := (fun _ : Bool => True)) (EE := (fun b => [(0, .pointer (some ⟨pb, 0, none⟩)), (5, .pointer (some ⟨b5, 0, none⟩)), (12, .pointer (some ⟨b12, 0, none⟩)), (119, .int .i64 o.kind), (127, .bool b)])) (LL := (fun _ => pt b12 (.cells #[.pointer (some ⟨pa, 0, none⟩), .int .i64 l.key, .int .i64 l.elem, .int .i64 l.ka, .int .i64 l.ea, .int .i64 l.cap, .int .i64 l.eo, .int .i64 l.bo, .int .i64 l.slot, .int .i64 l.group, .int .i64 (x.off : Nat), .pointer (some ⟨x.p, 0, none⟩), .bool x.over] 42 (0, 0)) :: pt b5 (.cells #[.int .i64 o.kind, .int .i64 o.t, .int .i64 o.n, .int .i64 o.m, .int .u64 o.h, .string o.k, .string o.e] 29 (0, 0)) :: G :: pt pb (.cells #[.pointer (some ⟨pa, 0, none⟩), .pointer (some ⟨pr, 0, none⟩), .int .i64 l.key, .int .i64 l.elem, .int .i64 l.ka, .int .i64 l.ea, .int .i64 l.cap, .int .i64 l.eo, .int .i64 l.bo, .int .i64 l.slot, .int .i64 l.group, (.slice (some ⟨g0, 0, none⟩) ps.length cap)] 37 (0, 0)) :: ownS 42 13 (.slice (some ⟨g0, 0, none⟩) ps.length cap) ps.length (rowOf (pairC pa l) ps) :: rtH pr l x :: rtsH pr l (ps.eraseIdx k) :: rarH pr s :: arenaH pa s :: Fr))
        refine t_if O (fun c0 => ?_) fun c0 => ?_
        ·refine t_skip ?_
         apply n_join ((decide (o.kind = 5)))
         ·exact trivial
         ·exact ⟨rfl, rfl, rfl, rfl, rfl, trivial⟩
         ·exact en
        ·refine sr<|l_q O (qi O O (b_eql ·))<|asg O O<|lc<|t_if O (fun c1 => ?_) fun c1 => ?_
         ·refine t_skip ?_
          apply n_join ((decide (o.kind = 6)))
          ·exact trivial
          ·exact ⟨rfl, rfl, rfl, rfl, rfl, trivial⟩
          ·exact en
         ·refine sr<|l_q O (qi O O (b_eql ·))<|asg O O<|lc<|t_if O (fun c2 => ?_) fun c2 => ?_
          ·refine t_skip ?_
           apply n_join ((decide (o.kind = 11)))
           ·exact trivial
           ·exact ⟨rfl, rfl, rfl, rfl, rfl, trivial⟩
           ·exact en
          ·refine sr<|l_q O (qi O O (b_eql ·))<|asg O O<|lc<|t_if O (fun c3 => ?_) fun c3 => ?_
           ·refine t_skip ?_
            apply n_join ((decide (o.kind = 12)))
            ·exact trivial
            ·exact ⟨rfl, rfl, rfl, rfl, rfl, trivial⟩
            ·exact en
           ·refine sr<|l_q O (qi O O (b_eql ·))<|asg O O<|lc<|t_if O (fun c4 => ?_) fun c4 => ?_
            ·refine t_skip ?_
             apply n_join ((decide (o.kind = 13)))
             ·exact trivial
             ·exact ⟨rfl, rfl, rfl, rfl, rfl, trivial⟩
             ·exact en
            ·refine sr<|l_q O (qi O O (b_eql ·))<|asg O O<|lc<|t_if O (fun c5 => ?_) fun c5 => ?_
             ·refine t_skip ?_
              apply n_join ((decide (o.kind = 14)))
              ·exact trivial
              ·exact ⟨rfl, rfl, rfl, rfl, rfl, trivial⟩
              ·exact en
             ·refine t_region<|l_q O (qi O O (b_eql ·))<|asg O O<|l_nil ?_
              apply n_join ((decide (o.kind = 15)))
              ·exact trivial
              ·exact ⟨rfl, rfl, rfl, rfl, rfl, trivial⟩
              ·exact en
        rintro bC -
        try dsimp only
        refine n_nm ?_
        refine n_code<|t_if O (fun w2 => ?_) fun w2 => ?_
        ·refine sr<|l_q O (qlda O yA42 yS42) ?_
         refine l_q O (qlda O yA29 yS29) ?_
         refine lcf O O O (changes_ok G hG pa pr s hs l hl x (hA.at hx) (by simpa using q4) o hw) ?_
         rintro v L' ⟨s', x', rfl, rfl, hch⟩
         refine l_nm ?_
         refine asg O O<|lc<|rt ?_
         obtain ⟨hA2, he2, hd2⟩ := chg_all pa hs hA hx hch
         apply f_ret (.inl rfl) ([G, pt pb (.cells #[.pointer (some ⟨pa, 0, none⟩), .pointer (some ⟨pr, 0, none⟩), .int .i64 l.key, .int .i64 l.elem, .int .i64 l.ka, .int .i64 l.ea, .int .i64 l.cap, .int .i64 l.eo, .int .i64 l.bo, .int .i64 l.slot, .int .i64 l.group, (.slice (some ⟨g0, 0, none⟩) ps.length cap)] 37 (0, 0)), ownS 42 13 (.slice (some ⟨g0, 0, none⟩) ps.length cap) ps.length (rowOf (pairC pa l) ps), rtsH pr l (ps.set k x'), rarH pr s', arenaH pa s'])
         ·apply res1 O
          ·exact .tmp rfl
         ·exact ⟨s', ps.set k x', (.slice (some ⟨g0, 0, none⟩) ps.length cap), rfl, by rw [List.length_set, pair_set hx he2], hA2, hd2⟩
         ·intro w h; have h2 := rts_close hk w ((show Ent _ (rtH pr l x' :: rtsH pr l (ps.eraseIdx k) :: G :: pt pb (.cells #[.pointer (some ⟨pa, 0, none⟩), .pointer (some ⟨pr, 0, none⟩), .int .i64 l.key, .int .i64 l.elem, .int .i64 l.ka, .int .i64 l.ea, .int .i64 l.cap, .int .i64 l.eo, .int .i64 l.bo, .int .i64 l.slot, .int .i64 l.group, (.slice (some ⟨g0, 0, none⟩) ps.length cap)] 37 (0, 0)) :: ownS 42 13 (.slice (some ⟨g0, 0, none⟩) ps.length cap) ps.length (rowOf (pairC pa l) ps) :: rarH pr s' :: arenaH pa s' :: Fr) by (exact en)) w h); exact (show Ent (rtsH pr l (ps.set k x') :: G :: pt pb (.cells #[.pointer (some ⟨pa, 0, none⟩), .pointer (some ⟨pr, 0, none⟩), .int .i64 l.key, .int .i64 l.elem, .int .i64 l.ka, .int .i64 l.ea, .int .i64 l.cap, .int .i64 l.eo, .int .i64 l.bo, .int .i64 l.slot, .int .i64 l.group, (.slice (some ⟨g0, 0, none⟩) ps.length cap)] 37 (0, 0)) :: ownS 42 13 (.slice (some ⟨g0, 0, none⟩) ps.length cap) ps.length (rowOf (pairC pa l) ps) :: rarH pr s' :: arenaH pa s' :: Fr) _ by (exact en)) w h2
        ·refine t_skip<|n_blk<|nz<|mv O O<|l_q O (qlda O yA42 yS42) ?_
         refine l_q O (qlda O yA29 yS29) ?_
         refine lc1 O O O (tells_ok G hG pb pa pr s hs l hl x (hA.at hx) (by simpa using q4) (.slice (some ⟨g0, 0, none⟩) ps.length cap) o hw) ?_
         refine asg O O<|lc<|rt ?_
         apply f_ret (.inl rfl) ([G, pt pb (.cells #[.pointer (some ⟨pa, 0, none⟩), .pointer (some ⟨pr, 0, none⟩), .int .i64 l.key, .int .i64 l.elem, .int .i64 l.ka, .int .i64 l.ea, .int .i64 l.cap, .int .i64 l.eo, .int .i64 l.bo, .int .i64 l.slot, .int .i64 l.group, (.slice (some ⟨g0, 0, none⟩) ps.length cap)] 37 (0, 0)), ownS 42 13 (.slice (some ⟨g0, 0, none⟩) ps.length cap) ps.length (rowOf (pairC pa l) ps), rtsH pr l ps, rarH pr s, arenaH pa s])
         ·apply res1 O
          ·exact .tmp rfl
         ·exact ⟨s, ps, (.slice (some ⟨g0, 0, none⟩) ps.length cap), rfl, rfl, hA, by omega⟩
         ·intro w h; have h2 := rts_close hk w ((show Ent _ (rtH pr l x :: rtsH pr l (ps.eraseIdx k) :: G :: pt pb (.cells #[.pointer (some ⟨pa, 0, none⟩), .pointer (some ⟨pr, 0, none⟩), .int .i64 l.key, .int .i64 l.elem, .int .i64 l.ka, .int .i64 l.ea, .int .i64 l.cap, .int .i64 l.eo, .int .i64 l.bo, .int .i64 l.slot, .int .i64 l.group, (.slice (some ⟨g0, 0, none⟩) ps.length cap)] 37 (0, 0)) :: ownS 42 13 (.slice (some ⟨g0, 0, none⟩) ps.length cap) ps.length (rowOf (pairC pa l) ps) :: rarH pr s :: arenaH pa s :: Fr) by (exact en)) w h); rw [set_same hx] at h2; exact (show Ent (rtsH pr l ps :: G :: pt pb (.cells #[.pointer (some ⟨pa, 0, none⟩), .pointer (some ⟨pr, 0, none⟩), .int .i64 l.key, .int .i64 l.elem, .int .i64 l.ka, .int .i64 l.ea, .int .i64 l.cap, .int .i64 l.eo, .int .i64 l.bo, .int .i64 l.slot, .int .i64 l.group, (.slice (some ⟨g0, 0, none⟩) ps.length cap)] 37 (0, 0)) :: ownS 42 13 (.slice (some ⟨g0, 0, none⟩) ps.length cap) ps.length (rowOf (pairC pa l) ps) :: rarH pr s :: arenaH pa s :: Fr) _ by (exact en)) w h2
end
end Go.Proofs.YthkajgkagnenbaaGreatDoor.Exact
