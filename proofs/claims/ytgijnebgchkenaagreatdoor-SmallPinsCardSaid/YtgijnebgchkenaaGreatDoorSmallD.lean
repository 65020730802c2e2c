/- A small map's pins, retiring, freeing; a dead one's answers. -/
import Derived.Test.YtgijnebgchkenaaGreatDoorSmallP
import Derived.Test.YtgijnebgchkenaaGreatDoorSmallN
import Derived.Test.YtgijnebgchkenaaGreatDoorTableD
set_option linter.unusedVariables false
set_option linter.unusedSimpArgs false
set_option maxRecDepth 100000
namespace Go.Proofs.YtgijnebgchkenaaGreatDoor.Small
open Go.RowKit Go.Proofs Go.Proofs.YtgijnebgchkenaaGreatDoor.Eng Go.Proofs.YtgijnebgchkenaaGreatDoor.Ty Go.Proofs.YtgijnebgchkenaaGreatDoor.Bits Go.Proofs.YtgijnebgchkenaaGreatDoor.Mem Go.Proofs.YtgijnebgchkenaaGreatDoor.Search Go.Proofs.YtgijnebgchkenaaGreatDoor.Arena Go.Proofs.YtgijnebgchkenaaGreatDoor.CtrlB Go.Proofs.YtgijnebgchkenaaGreatDoor.Ctrl Go.Proofs.YtgijnebgchkenaaGreatDoor.Layout Go.Proofs.YtgijnebgchkenaaGreatDoor.GroupB Go.Proofs.YtgijnebgchkenaaGreatDoor.Group Go.Proofs.YtgijnebgchkenaaGreatDoor.TableB Go.Proofs.YtgijnebgchkenaaGreatDoor.Table
theorem sm_ne {S : Sm} {S' : Sm} {k : Nat} (h0 : k = 0 ∨ S'.kind = S.kind) (h1 : k = 1 ∨ S'.pins = S.pins) (h2 : k = 2 ∨ S'.next = S.next) (h3 : k = 3 ∨ S'.used = S.used) : ∀ j, j < 4 → j ≠ k → smV S' j = smV S j := fun j hj hne => by
  have : j = 0 ∨ j = 1 ∨ j = 2 ∨ j = 3 := by omega
  rcases this with rfl | rfl | rfl | rfl
  · exact h0.resolve_left (fun e => hne e.symm)
  · exact h1.resolve_left (fun e => hne e.symm)
  · exact h2.resolve_left (fun e => hne e.symm)
  · exact h3.resolve_left (fun e => hne e.symm)
section
variable (pa off : Nat) (s : ArS) (l : Lay) (S : Sm) (hP : SmP s off l S)
include hP
theorem SSetNext_ok (next : Int) (hb : -9223372036854775808 ≤ next ∧ next ≤ 9223372036854775807) : FnOk Tryz.prog 42 #[.agg #[.pointer (some ⟨pa, 0, none⟩), .int .i64 l.key, .int .i64 l.elem, .int .i64 l.ka, .int .i64 l.ea, .int .i64 l.cap, .int .i64 l.eo, .int .i64 l.bo, .int .i64 l.slot, .int .i64 l.group, .int .i64 (off : Nat)], .int .i64 next] [arenaH pa s]
    (fun v L => ∃ s', v = .int .i64 0 ∧ L = [arenaH pa s'] ∧ SmP s' off l { S with next := next } ∧ Lays s s') := by
  have hbd := Lay.bnd hP.hl
  have hw := hP.word (S' := { S with next := next }) (k := 2) (by decide) hb rfl (sm_ne (.inr rfl) (.inr rfl) (.inl rfl) (.inr rfl)) rfl
  refine fn_intro en42 Tryz.func42 rfl rfl rfl fun Fr w0 => t_nm ?_
  refine sr <| o_boxA rfl rfl fun b2 => asg rfl rfl <| lc <| t_seq <| sr <| l_q rfl (qlda rfl yA98 yS98) ?_
  refine lc1 rfl rfl rfl (SStat_ok pa off s l S hP) ?_
  refine mv rfl rfl <| l_q rfl (q_extractL rfl ga) ?_
  refine l_q rfl (q_extractL rfl ga) ?_
  refine o_allocA rfl yZ105 fun b5 => sta rfl rfl rfl yS105 rfl rfl ?_
  refine asg rfl rfl <| lz <| mv rfl rfl <| l_q rfl (qi rfl rfl (b_neq ·)) <| lc <| t_if rfl (fun z => ?_) fun z => ?_
  · exact absurd rfl z
  · refine t_skip <| nz <| l_q rfl (qlda rfl yA98 yS98) ?_
    refine mv rfl rfl <| lcf rfl rfl rfl (sset_ok pa off s l hP.gh (by omega) 2 16 next rfl (by decide)) ?_
    rintro v L' rfl
    refine l_nm ?_
    exact lz <| asg rfl rfl <| lc <| rt <| fr1 rfl ([arenaH pa (s.put (off + 8 * 2) 8 (byteN (IntKind.u64.wrap next)))]) (.tmp rfl) (⟨_, rfl, rfl, hw, ⟨rfl, rfl, rfl⟩⟩)
theorem SRetire_ok (next : Int) (hb : -9223372036854775808 ≤ next ∧ next ≤ 9223372036854775807) : FnOk Tryz.prog 41 #[.agg #[.pointer (some ⟨pa, 0, none⟩), .int .i64 l.key, .int .i64 l.elem, .int .i64 l.ka, .int .i64 l.ea, .int .i64 l.cap, .int .i64 l.eo, .int .i64 l.bo, .int .i64 l.slot, .int .i64 l.group, .int .i64 (off : Nat)], .int .i64 next] [arenaH pa s]
    (fun v L => ∃ s', v = .int .i64 0 ∧ L = [arenaH pa s'] ∧ SmP s' off l { S with next := next, kind := 3 } ∧ Lays s s') := by
  have hbd := Lay.bnd hP.hl
  refine fn_intro en41 Tryz.func41 rfl rfl rfl fun Fr w0 => t_nm ?_
  refine sr <| o_boxA rfl rfl fun b2 => asg rfl rfl <| lc <| t_seq <| sr <| l_q rfl (qlda rfl yA98 yS98) ?_
  refine mv rfl rfl <| lcf rfl rfl rfl (SSetNext_ok pa off s l S hP next hb) ?_
  rintro v L' ⟨s1, rfl, rfl, hP1, hS1⟩
  refine l_nm ?_
  refine asg rfl rfl <| lz <| mv rfl rfl <| l_q rfl (qi rfl rfl (b_neq ·)) <| lc <| t_if rfl (fun z => ?_) fun z => ?_
  · exact absurd rfl z
  · refine t_skip <| nz <| l_q rfl (qlda rfl yA98 yS98) ?_
    have hw := hP1.word (S' := { S with next := next, kind := 3 }) (k := 0) (v := 3) (by decide) (by omega) rfl (sm_ne (.inl rfl) (.inr rfl) (.inr rfl) (.inr rfl)) rfl
    refine lcf rfl rfl rfl (sset_ok pa off s1 l hP1.gh (by omega) 0 0 3 rfl (by decide)) ?_
    rintro v L' rfl
    refine l_nm ?_
    exact lz <| asg rfl rfl <| lc <| rt <| fr1 rfl ([arenaH pa (s1.put (off + 8 * 0) 8 (byteN (IntKind.u64.wrap 3)))]) (.tmp rfl) (⟨_, rfl, rfl, hw, hS1.trans ⟨rfl, rfl, rfl⟩⟩)
theorem SPin_ok (by_ : Int) (hb : -9223372036854775808 ≤ by_ ∧ by_ ≤ 9223372036854775807) (hpin : 0 ≤ S.pins ∧ S.pins ≤ 4611686018427387904) : FnOk Tryz.prog 39 #[.agg #[.pointer (some ⟨pa, 0, none⟩), .int .i64 l.key, .int .i64 l.elem, .int .i64 l.ka, .int .i64 l.ea, .int .i64 l.cap, .int .i64 l.eo, .int .i64 l.bo, .int .i64 l.slot, .int .i64 l.group, .int .i64 (off : Nat)], .int .i64 by_] [arenaH pa s]
    (fun v L => ((by_ < -S.pins ∨ 4611686018427387904 - S.pins < by_) ∧ v = .tuple #[.int .i64 0, .int .i64 83] ∧ L = [arenaH pa s]) ∨
      (-S.pins ≤ by_ ∧ by_ ≤ 4611686018427387904 - S.pins ∧ ∃ s', v = .tuple #[.int .i64 (S.pins + by_), .int .i64 0] ∧ L = [arenaH pa s'] ∧ SmP s' off l { S with pins := S.pins + by_ } ∧ Lays s s')) := by
  have hbd := Lay.bnd hP.hl
  have hneg : IntKind.i64.wrap (0 - S.pins) = -S.pins := by rw [wrap_i64 (by omega)]; omega
  refine fn_intro en39 Tryz.func39 rfl rfl rfl fun Fr w0 => t_nm ?_
  refine sr <| o_boxA rfl rfl fun b2 => asg rfl rfl <| asg rfl rfl <| lz <| l_q rfl (qlda rfl yA98 yS98) ?_
  refine lc1 rfl rfl rfl (SStat_ok pa off s l S hP) ?_
  refine mv rfl rfl <| l_q rfl (q_extractL rfl ga) ?_
  refine l_q rfl (q_extractL rfl ga) ?_
  refine o_allocA rfl yZ105 fun b6 => sta rfl rfl rfl yS105 rfl rfl ?_
  refine asg rfl rfl <| lc <| t_seq <| sr <| mv rfl rfl <| l_q rfl (qi rfl rfl (b_neq ·)) <| lc <| t_if rfl (fun z => ?_) fun z => ?_
  · exact absurd rfl z
  · refine t_skip <| n_code <| t_seq <| sr <| mv rfl rfl <| l_q rfl (qfa 1 rfl yU105 rfl rfl yS3) <| l_q rfl (qld rfl yA3) ?_
    refine l_q rfl (q_un rfl (u_neg ·)) <| l_q rfl (qi rfl rfl (b_lss ·)) <| mv rfl rfl <| l_pt (t := 21) rfl (fun p1 => ?_) fun p1 => ?_
    · refine l_off rfl rfl rfl rfl <| l_off rfl rfl rfl rfl <| l_off rfl rfl rfl rfl <| l_off rfl rfl rfl rfl <| l_off rfl rfl rfl rfl <| l_q rfl (q_pk rfl rfl) <| lc <| t_cond_t rfl <| sr <| asg rfl rfl <| asg rfl rfl <| lc <| rt ?_
      rw [hneg] at p1
      exact fr2 rfl ([arenaH pa s]) (.tmp rfl) (.tmp rfl) (.inl ⟨.inl p1, rfl, rfl⟩)
    · refine l_on rfl rfl <| mv rfl rfl <| l_on rfl rfl <| l_q rfl (qfa 1 rfl yU105 rfl rfl yS3) <| l_on rfl rfl <| l_q rfl (qld rfl yA3) ?_
      refine l_on rfl rfl <| l_q rfl (qsub rfl rfl) ?_
      refine l_on rfl rfl <| l_q rfl (qi rfl rfl (b_gtr ·)) <| l_q rfl (q_pk rfl rfl) <| lc ?_
      rw [hneg] at p1
      refine t_if rfl (fun p2 => ?_) fun p2 => ?_
      · exact sr <| asg rfl rfl <| asg rfl rfl <| lc <| rt <| fr2 rfl ([arenaH pa s]) (.tmp rfl) (.tmp rfl) (.inl ⟨.inr p2, rfl, rfl⟩)
      · refine t_skip <| nz <| l_q rfl (qlda rfl yA98 yS98) ?_
        refine l_q rfl (qfa 1 rfl yU105 rfl rfl yS3) <| l_q rfl (qld rfl yA3) ?_
        refine mv rfl rfl <| l_q rfl (qadd rfl rfl) ?_
        have hw := hP.word (S' := { S with pins := S.pins + by_ }) (k := 1) (v := S.pins + by_) (by decide) (by omega) rfl (sm_ne (.inr rfl) (.inl rfl) (.inr rfl) (.inr rfl)) rfl
        refine lcf rfl rfl rfl (sset_ok pa off s l hP.gh (by omega) 1 8 _ rfl (by decide)) ?_
        rintro v L' rfl
        refine l_nm ?_
        refine lz <| l_q rfl (qfa 1 rfl yU105 rfl rfl yS3) <| l_q rfl (qld rfl yA3) ?_
        refine mv rfl rfl <| l_q rfl (qadd rfl rfl) ?_
        refine asg rfl rfl <| asg rfl rfl <| lc <| rt <| fr2 rfl ([arenaH pa (s.put (off + 8 * 1) 8 (byteN (IntKind.u64.wrap (S.pins + by_))))]) (.tmp rfl) (.tmp rfl) ?_
        exact .inr ⟨by omega, by omega, _, rfl, rfl, hw, ⟨rfl, rfl, rfl⟩⟩
theorem SFree_ok (c : Int) (h1 : (((off : Nat) : Int), c) ∈ s.bl) : FnOk Tryz.prog 103 #[.agg #[.pointer (some ⟨pa, 0, none⟩), .int .i64 l.key, .int .i64 l.elem, .int .i64 l.ka, .int .i64 l.ea, .int .i64 l.cap, .int .i64 l.eo, .int .i64 l.bo, .int .i64 l.slot, .int .i64 l.group, .int .i64 (off : Nat)]] [arenaH pa s] (fun v L => v = .int .i64 0 ∧ L = [arenaH pa (s.gives [((off : Nat) : Int)])]) := by
  refine fn_intro en103 Tryz.func103 rfl rfl rfl fun Fr w0 => t_nm ?_
  refine sr <| o_boxA rfl rfl fun b1 => asg rfl rfl <| lc <| t_seq <| sr <| l_q rfl (qlda rfl yA98 yS98) ?_
  refine lc1 rfl rfl rfl (SStat_ok pa off s l S hP) ?_
  refine mv rfl rfl <| l_q rfl (q_extractL rfl ga) ?_
  refine l_q rfl (q_extractL rfl ga) ?_
  refine o_allocA rfl yZ105 fun b3 => sta rfl rfl rfl yS105 rfl rfl ?_
  refine asg rfl rfl <| lz <| mv rfl rfl <| l_q rfl (qi rfl rfl (b_neq ·)) <| lc <| t_if rfl (fun z => ?_) fun z => ?_
  · exact absurd rfl z
  · refine t_skip <| nz <| l_q rfl (qfa 0 rfl yU98 rfl rfl yS30) <| l_q rfl (qld rfl yA30) ?_
    refine l_q rfl (qfa 10 rfl yU98 rfl rfl yS3) <| l_q rfl (qld rfl yA3) ?_
    refine o_buildSlice1 [_] rfl rfl yU22 yS3 yZ3 rfl rfl rfl rfl (fun b17 => ?_)
    refine lc1 rfl rfl rfl (Free1_ok pa s b17 ((off : Nat) : Int) ⟨_, h1⟩) ?_
    exact asg rfl rfl <| lc <| rt <| fr1 rfl ([arenaH pa (s.gives [((off : Nat) : Int)])]) (.tmp rfl) ⟨rfl, rfl⟩
end
section
variable (pa : Nat) (off : Nat) (s : ArS) (l : Lay) (hg : ¬ goodP s (off : Nat) 8) (hne : s.all ≠ []) (ho : off ≤ 1000000000)
include hg hne ho
theorem SStat_dead : FnOk Tryz.prog 45 #[.agg #[.pointer (some ⟨pa, 0, none⟩), .int .i64 l.key, .int .i64 l.elem, .int .i64 l.ka, .int .i64 l.ea, .int .i64 l.cap, .int .i64 l.eo, .int .i64 l.bo, .int .i64 l.slot, .int .i64 l.group, .int .i64 (off : Nat)]] [arenaH pa s] (fun v L => v = .tuple #[.agg #[.int .i64 0, .int .i64 0, .int .i64 0, .bool false], .int .i64 24] ∧ L = [arenaH pa s]) := by
  refine fn_intro en45 Tryz.func45 rfl rfl rfl fun Fr w0 => t_nm ?_
  refine sr <| o_boxA rfl rfl fun b1 => o_allocA rfl yZ105 fun b2 => asg rfl rfl <| lz <| o_allocA rfl yZ184 fun b4 => lc <| t_seq <| sr <| mv rfl rfl <| lc <| t_block ?_
  refine t_loop (fun k : Nat => k = 0) (fun k => [(1, .pointer (some ⟨b1, 0, none⟩)), (2, .pointer (some ⟨b2, 0, none⟩)), (4, .pointer (some ⟨b4, 0, none⟩)), (8, .int .i64 k)]) (fun k => pt b4 (.cells #[.int .i64 0, .int .i64 0, .int .i64 0, .int .i64 0] 184 (0, 0)) :: pt b1 (.cells #[.pointer (some ⟨pa, 0, none⟩), .int .i64 l.key, .int .i64 l.elem, .int .i64 l.ka, .int .i64 l.ea, .int .i64 l.cap, .int .i64 l.eo, .int .i64 l.bo, .int .i64 l.slot, .int .i64 l.group, .int .i64 (off : Nat)] 98 (0, 0)) :: pt b2 (.cells #[.int .i64 0, .int .i64 0, .int .i64 0, .bool false] 105 (0, 0)) :: arenaH pa s :: Fr) (fun k => k) 0 rfl ⟨rfl, rfl, rfl, rfl, trivial⟩ (by (exact en)) ?_
  rintro k rfl
  refine sr <| l_q rfl (qi rfl rfl (b_lss ·)) <| lc <| t_seq <| t_if rfl (fun h => ?_) fun h => ?_
  · refine t_skip <| n_code <| t_seq <| t_block <| sr <| mv rfl rfl <| asg rfl rfl <| lz <| l_q rfl (qfa 0 rfl yU98 rfl rfl yS30) <| l_q rfl (qld rfl yA30) ?_
    refine l_q rfl (qfa 10 rfl yU98 rfl rfl yS3) <| l_q rfl (qld rfl yA3) ?_
    refine mv rfl rfl <| l_q rfl (qmul rfl rfl) ?_
    refine l_q rfl (qadd rfl rfl) ?_
    refine lc1 rfl rfl rfl (Table.Load_dead pa s _ 8 (by unfold wid; omega) (by simpa using hg) hne) ?_
    refine mv rfl rfl <| l_q rfl (q_extractL rfl ga) ?_
    refine l_q rfl (q_extractL rfl ga) ?_
    refine asg rfl rfl <| asg rfl rfl <| lc <| t_seq <| sr <| mv rfl rfl <| l_q rfl (qi rfl rfl (b_neq ·)) <| lc <| t_if rfl (fun z => ?_) fun z => ?_
    · refine sr ?_
      apply l_q rfl
      · apply q_buildS rfl yP105 yZ105
        · exact FillR.nil
      refine mv rfl rfl <| sta rfl rfl rfl yS105 rfl rfl ?_
      refine asg rfl rfl <| lc <| rt ?_
      apply f_ret (.inl rfl) ([arenaH pa s])
      · apply res2 rfl
        · apply Rv.agg rfl
          · exact tk
          · exact run_loadAll yA105 yS105 rfl
        · exact .tmp rfl
      · exact ⟨rfl, rfl⟩
      · exact en
    · exact absurd z (by decide)
  · exact absurd h (by decide)
theorem sfind_dead (h : Int) (key : ByteArray) : FnOk Tryz.prog 151 #[.agg #[.pointer (some ⟨pa, 0, none⟩), .int .i64 l.key, .int .i64 l.elem, .int .i64 l.ka, .int .i64 l.ea, .int .i64 l.cap, .int .i64 l.eo, .int .i64 l.bo, .int .i64 l.slot, .int .i64 l.group, .int .i64 (off : Nat)], .int .i64 h, .string key] [arenaH pa s] (fun v L => v = .tuple #[.agg #[.int .i64 0, .int .i64 0, .int .i64 0, .bool false], .int .i64 0, .int .i64 24] ∧ L = [arenaH pa s]) := by
  refine fn_intro en151 Tryz.func151 rfl rfl rfl fun Fr w0 => t_nm ?_
  refine sr <| o_boxA rfl rfl fun b3 => o_allocA rfl yZ105 fun b6 => asg rfl rfl <| asg rfl rfl <| lz <| l_q rfl (qlda rfl yA98 yS98) ?_
  refine lc1 rfl rfl rfl (SStat_dead pa off s l hg hne ho) ?_
  refine mv rfl rfl <| l_q rfl (q_extractL rfl ga) ?_
  refine l_q rfl (q_extractL rfl ga) ?_
  refine o_allocA rfl yZ105 fun b9 => sta rfl rfl rfl yS105 rfl rfl ?_
  refine asg rfl rfl <| lc <| t_seq <| sr <| mv rfl rfl <| l_q rfl (qi rfl rfl (b_neq ·)) <| lc <| t_if rfl (fun z => ?_) fun z => ?_
  · refine sr <| l_q rfl (qlda rfl yA105 yS105) ?_
    refine mv rfl rfl <| sta rfl rfl rfl yS105 rfl rfl ?_
    refine asg rfl rfl <| asg rfl rfl <| lc <| rt ?_
    apply f_ret (.inl rfl) ([arenaH pa s])
    · apply res3 rfl
      · apply Rv.agg rfl
        · exact tk
        · exact run_loadAll yA105 yS105 rfl
      · exact .tmp rfl
      · exact .tmp rfl
    · exact ⟨rfl, rfl⟩
    · exact en
  · exact absurd z (by decide)
theorem SFind_dead (h : Int) (key : ByteArray) : FnOk Tryz.prog 97 #[.agg #[.pointer (some ⟨pa, 0, none⟩), .int .i64 l.key, .int .i64 l.elem, .int .i64 l.ka, .int .i64 l.ea, .int .i64 l.cap, .int .i64 l.eo, .int .i64 l.bo, .int .i64 l.slot, .int .i64 l.group, .int .i64 (off : Nat)], .int .i64 h, .string key] [arenaH pa s] (fun v L => v = .tuple #[.int .i64 0, .int .i64 24] ∧ L = [arenaH pa s]) := by
  refine fn_intro en97 Tryz.func97 rfl rfl rfl fun Fr w0 => t_nm ?_
  refine sr <| o_boxA rfl rfl fun b3 => asg rfl rfl <| asg rfl rfl <| lz <| l_q rfl (qlda rfl yA98 yS98) ?_
  refine mv rfl rfl <| mv rfl rfl <| lc1 rfl rfl rfl (sfind_dead pa off s l hg hne ho h key) ?_
  refine mv rfl rfl <| l_q rfl (q_extractL rfl ga) ?_
  refine l_q rfl (q_extractL rfl ga) ?_
  refine l_q rfl (q_extractL rfl ga) ?_
  refine o_allocA rfl yZ105 fun b8 => sta rfl rfl rfl yS105 rfl rfl ?_
  exact asg rfl rfl <| asg rfl rfl <| lz <| mv rfl rfl <| mv rfl rfl <| asg rfl rfl <| asg rfl rfl <| lc <| rt <| fr2 rfl ([arenaH pa s]) (.tmp rfl) (.tmp rfl) ⟨rfl, rfl⟩
theorem SGet_dead (h : Int) (key : ByteArray) : FnOk Tryz.prog 98 #[.agg #[.pointer (some ⟨pa, 0, none⟩), .int .i64 l.key, .int .i64 l.elem, .int .i64 l.ka, .int .i64 l.ea, .int .i64 l.cap, .int .i64 l.eo, .int .i64 l.bo, .int .i64 l.slot, .int .i64 l.group, .int .i64 (off : Nat)], .int .i64 h, .string key] [arenaH pa s] (fun v L => v = .tuple #[.agg #[.int .i64 0, .int .i64 0, .string ⟨#[]⟩, .string ⟨#[]⟩, .int .i64 0], .int .i64 24] ∧ L = [arenaH pa s]) := by
  refine fn_intro en98 Tryz.func98 rfl rfl rfl fun Fr w0 => t_nm ?_
  refine sr <| o_boxA rfl rfl fun b3 => o_allocA rfl yZ54 fun b6 => asg rfl rfl <| lz <| l_q rfl (qlda rfl yA98 yS98) ?_
  refine mv rfl rfl <| mv rfl rfl <| lc1 rfl rfl rfl (sfind_dead pa off s l hg hne ho h key) ?_
  refine mv rfl rfl <| l_q rfl (q_extractL rfl ga) ?_
  refine l_q rfl (q_extractL rfl ga) ?_
  refine l_q rfl (q_extractL rfl ga) ?_
  refine o_allocA rfl yZ105 fun b8 => sta rfl rfl rfl yS105 rfl rfl ?_
  refine asg rfl rfl <| asg rfl rfl <| lc <| t_seq <| sr <| mv rfl rfl <| l_q rfl (qi rfl rfl (b_neq ·)) <| mv rfl rfl <| l_pt (t := 21) rfl (fun z => ?_) fun z => ?_
  · refine l_off rfl rfl rfl rfl <| l_off rfl rfl rfl rfl <| l_q rfl (q_pk rfl rfl) <| lc <| t_cond_t rfl <| sr ?_
    apply l_q rfl
    · apply q_buildS rfl yP54 yZ54
      · exact FillR.nil
    refine mv rfl rfl <| sta rfl rfl rfl yS54 rfl rfl ?_
    refine asg rfl rfl <| lc <| rt ?_
    apply f_ret (.inl rfl) ([arenaH pa s])
    · apply res2 rfl
      · apply Rv.agg rfl
        · exact tk
        · exact run_loadAll yA54 yS54 rfl
      · exact .tmp rfl
    · exact ⟨rfl, rfl⟩
    · exact en
  · exact absurd z (by decide)
theorem SPut_dead (h : Int) (key elem : ByteArray) (birth : Int) : FnOk Tryz.prog 95 #[.agg #[.pointer (some ⟨pa, 0, none⟩), .int .i64 l.key, .int .i64 l.elem, .int .i64 l.ka, .int .i64 l.ea, .int .i64 l.cap, .int .i64 l.eo, .int .i64 l.bo, .int .i64 l.slot, .int .i64 l.group, .int .i64 (off : Nat)], .int .i64 h, .string key, .string elem, .int .i64 birth] [arenaH pa s] (fun v L => v = .tuple #[.int .i64 0, .int .i64 24] ∧ L = [arenaH pa s]) := by
  refine fn_intro en95 Tryz.func95 rfl rfl rfl fun Fr w0 => t_nm ?_
  refine sr <| o_boxA rfl rfl fun b5 => asg rfl rfl <| asg rfl rfl <| lz <| l_q rfl (qlda rfl yA98 yS98) ?_
  refine mv rfl rfl <| mv rfl rfl <| lc1 rfl rfl rfl (sfind_dead pa off s l hg hne ho h key) ?_
  refine mv rfl rfl <| l_q rfl (q_extractL rfl ga) ?_
  refine l_q rfl (q_extractL rfl ga) ?_
  refine l_q rfl (q_extractL rfl ga) ?_
  refine o_allocA rfl yZ105 fun b12 => sta rfl rfl rfl yS105 rfl rfl ?_
  refine asg rfl rfl <| asg rfl rfl <| lc <| t_seq <| t_block <| sr <| mv rfl rfl <| l_q rfl (qi rfl rfl (b_neq ·)) <| mv rfl rfl <| l_pt (t := 28) rfl (fun z => ?_) fun z => ?_
  · refine l_on rfl rfl <| mv rfl rfl <| l_on rfl rfl <| l_q rfl (qi rfl rfl (b_neq ·)) <| l_q rfl (q_pk rfl rfl) <| asg rfl rfl <| lc <| t_if rfl (fun z2 => ?_) fun z2 => ?_
    · exact sr <| mv rfl rfl <| asg rfl rfl <| asg rfl rfl <| lc <| rt <| fr2 rfl ([arenaH pa s]) (.tmp rfl) (.tmp rfl) ⟨rfl, rfl⟩
    · exact absurd z2 (by decide)
  · exact absurd z (by decide)
theorem SDelete_dead (h : Int) (key : ByteArray) : FnOk Tryz.prog 96 #[.agg #[.pointer (some ⟨pa, 0, none⟩), .int .i64 l.key, .int .i64 l.elem, .int .i64 l.ka, .int .i64 l.ea, .int .i64 l.cap, .int .i64 l.eo, .int .i64 l.bo, .int .i64 l.slot, .int .i64 l.group, .int .i64 (off : Nat)], .int .i64 h, .string key] [arenaH pa s] (fun v L => v = .tuple #[.bool false, .int .i64 24] ∧ L = [arenaH pa s]) := by
  refine fn_intro en96 Tryz.func96 rfl rfl rfl fun Fr w0 => t_nm ?_
  refine sr <| o_boxA rfl rfl fun b3 => asg rfl rfl <| asg rfl rfl <| lz <| l_q rfl (qlda rfl yA98 yS98) ?_
  refine mv rfl rfl <| mv rfl rfl <| lc1 rfl rfl rfl (sfind_dead pa off s l hg hne ho h key) ?_
  refine mv rfl rfl <| l_q rfl (q_extractL rfl ga) ?_
  refine l_q rfl (q_extractL rfl ga) ?_
  refine l_q rfl (q_extractL rfl ga) ?_
  refine o_allocA rfl yZ105 fun b8 => sta rfl rfl rfl yS105 rfl rfl ?_
  refine asg rfl rfl <| asg rfl rfl <| lc <| t_seq <| sr <| mv rfl rfl <| l_q rfl (qi rfl rfl (b_neq ·)) <| mv rfl rfl <| l_pt (t := 22) rfl (fun z => ?_) fun z => ?_
  · exact l_off rfl rfl rfl rfl <| l_off rfl rfl rfl rfl <| l_q rfl (q_pk rfl rfl) <| lc <| t_cond_t rfl <| sr <| mv rfl rfl <| asg rfl rfl <| asg rfl rfl <| lc <| rt <| fr2 rfl ([arenaH pa s]) (.tmp rfl) (.tmp rfl) ⟨rfl, rfl⟩
  · exact absurd z (by decide)
theorem SCell_dead (k : Int) : FnOk Tryz.prog 44 #[.agg #[.pointer (some ⟨pa, 0, none⟩), .int .i64 l.key, .int .i64 l.elem, .int .i64 l.ka, .int .i64 l.ea, .int .i64 l.cap, .int .i64 l.eo, .int .i64 l.bo, .int .i64 l.slot, .int .i64 l.group, .int .i64 (off : Nat)], .int .i64 k] [arenaH pa s] (fun v L => v = .tuple #[.agg #[.int .i64 0, .int .i64 0, .string ⟨#[]⟩, .string ⟨#[]⟩, .int .i64 0], .int .i64 24] ∧ L = [arenaH pa s]) := by
  refine fn_intro en44 Tryz.func44 rfl rfl rfl fun Fr w0 => t_nm ?_
  refine sr <| o_boxA rfl rfl fun b2 => o_allocA rfl yZ54 fun b4 => asg rfl rfl <| lc <| t_seq <| sr <| l_q rfl (qlda rfl yA98 yS98) ?_
  refine lc1 rfl rfl rfl (SStat_dead pa off s l hg hne ho) ?_
  refine mv rfl rfl <| l_q rfl (q_extractL rfl ga) ?_
  refine l_q rfl (q_extractL rfl ga) ?_
  refine o_allocA rfl yZ105 fun b6 => sta rfl rfl rfl yS105 rfl rfl ?_
  refine asg rfl rfl <| lz <| mv rfl rfl <| l_q rfl (qi rfl rfl (b_neq ·)) <| lc <| t_if rfl (fun z => ?_) fun z => ?_
  · refine sr ?_
    apply l_q rfl
    · apply q_buildS rfl yP54 yZ54
      · exact FillR.nil
    refine mv rfl rfl <| sta rfl rfl rfl yS54 rfl rfl ?_
    refine asg rfl rfl <| lc <| rt ?_
    apply f_ret (.inl rfl) ([arenaH pa s])
    · apply res2 rfl
      · apply Rv.agg rfl
        · exact tk
        · exact run_loadAll yA54 yS54 rfl
      · exact .tmp rfl
    · exact ⟨rfl, rfl⟩
    · exact en
  · exact absurd z (by decide)
theorem SPin_dead (k : Int) : FnOk Tryz.prog 39 #[.agg #[.pointer (some ⟨pa, 0, none⟩), .int .i64 l.key, .int .i64 l.elem, .int .i64 l.ka, .int .i64 l.ea, .int .i64 l.cap, .int .i64 l.eo, .int .i64 l.bo, .int .i64 l.slot, .int .i64 l.group, .int .i64 (off : Nat)], .int .i64 k] [arenaH pa s] (fun v L => v = .tuple #[.int .i64 0, .int .i64 24] ∧ L = [arenaH pa s]) := by
  refine fn_intro en39 Tryz.func39 rfl rfl rfl fun Fr w0 => t_nm ?_
  refine sr <| o_boxA rfl rfl fun b2 => asg rfl rfl <| asg rfl rfl <| lz <| l_q rfl (qlda rfl yA98 yS98) ?_
  refine lc1 rfl rfl rfl (SStat_dead pa off s l hg hne ho) ?_
  refine mv rfl rfl <| l_q rfl (q_extractL rfl ga) ?_
  refine l_q rfl (q_extractL rfl ga) ?_
  refine o_allocA rfl yZ105 fun b6 => sta rfl rfl rfl yS105 rfl rfl ?_
  refine asg rfl rfl <| lc <| t_seq <| sr <| mv rfl rfl <| l_q rfl (qi rfl rfl (b_neq ·)) <| lc <| t_if rfl (fun z => ?_) fun z => ?_
  · exact sr <| mv rfl rfl <| asg rfl rfl <| asg rfl rfl <| lc <| rt <| fr2 rfl ([arenaH pa s]) (.tmp rfl) (.tmp rfl) ⟨rfl, rfl⟩
  · exact absurd z (by decide)
theorem SSetNext_dead (k : Int) : FnOk Tryz.prog 42 #[.agg #[.pointer (some ⟨pa, 0, none⟩), .int .i64 l.key, .int .i64 l.elem, .int .i64 l.ka, .int .i64 l.ea, .int .i64 l.cap, .int .i64 l.eo, .int .i64 l.bo, .int .i64 l.slot, .int .i64 l.group, .int .i64 (off : Nat)], .int .i64 k] [arenaH pa s] (fun v L => v = .int .i64 24 ∧ L = [arenaH pa s]) := by
  refine fn_intro en42 Tryz.func42 rfl rfl rfl fun Fr w0 => t_nm ?_
  refine sr <| o_boxA rfl rfl fun b2 => asg rfl rfl <| lc <| t_seq <| sr <| l_q rfl (qlda rfl yA98 yS98) ?_
  refine lc1 rfl rfl rfl (SStat_dead pa off s l hg hne ho) ?_
  refine mv rfl rfl <| l_q rfl (q_extractL rfl ga) ?_
  refine l_q rfl (q_extractL rfl ga) ?_
  refine o_allocA rfl yZ105 fun b5 => sta rfl rfl rfl yS105 rfl rfl ?_
  refine asg rfl rfl <| lz <| mv rfl rfl <| l_q rfl (qi rfl rfl (b_neq ·)) <| lc <| t_if rfl (fun z => ?_) fun z => ?_
  · exact sr <| mv rfl rfl <| asg rfl rfl <| lc <| rt <| fr1 rfl ([arenaH pa s]) (.tmp rfl) ⟨rfl, rfl⟩
  · exact absurd z (by decide)
theorem SRetire_dead (k : Int) : FnOk Tryz.prog 41 #[.agg #[.pointer (some ⟨pa, 0, none⟩), .int .i64 l.key, .int .i64 l.elem, .int .i64 l.ka, .int .i64 l.ea, .int .i64 l.cap, .int .i64 l.eo, .int .i64 l.bo, .int .i64 l.slot, .int .i64 l.group, .int .i64 (off : Nat)], .int .i64 k] [arenaH pa s] (fun v L => v = .int .i64 24 ∧ L = [arenaH pa s]) := by
  refine fn_intro en41 Tryz.func41 rfl rfl rfl fun Fr w0 => t_nm ?_
  refine sr <| o_boxA rfl rfl fun b2 => asg rfl rfl <| lc <| t_seq <| sr <| l_q rfl (qlda rfl yA98 yS98) ?_
  refine mv rfl rfl <| lc1 rfl rfl rfl (SSetNext_dead pa off s l hg hne ho k) ?_
  refine asg rfl rfl <| lz <| mv rfl rfl <| l_q rfl (qi rfl rfl (b_neq ·)) <| lc <| t_if rfl (fun z => ?_) fun z => ?_
  · exact sr <| mv rfl rfl <| asg rfl rfl <| lc <| rt <| fr1 rfl ([arenaH pa s]) (.tmp rfl) ⟨rfl, rfl⟩
  · exact absurd z (by decide)
theorem SFree_dead  : FnOk Tryz.prog 103 #[.agg #[.pointer (some ⟨pa, 0, none⟩), .int .i64 l.key, .int .i64 l.elem, .int .i64 l.ka, .int .i64 l.ea, .int .i64 l.cap, .int .i64 l.eo, .int .i64 l.bo, .int .i64 l.slot, .int .i64 l.group, .int .i64 (off : Nat)]] [arenaH pa s] (fun v L => v = .int .i64 24 ∧ L = [arenaH pa s]) := by
  refine fn_intro en103 Tryz.func103 rfl rfl rfl fun Fr w0 => t_nm ?_
  refine sr <| o_boxA rfl rfl fun b1 => asg rfl rfl <| lc <| t_seq <| sr <| l_q rfl (qlda rfl yA98 yS98) ?_
  refine lc1 rfl rfl rfl (SStat_dead pa off s l hg hne ho) ?_
  refine mv rfl rfl <| l_q rfl (q_extractL rfl ga) ?_
  refine l_q rfl (q_extractL rfl ga) ?_
  refine o_allocA rfl yZ105 fun b3 => sta rfl rfl rfl yS105 rfl rfl ?_
  refine asg rfl rfl <| lz <| mv rfl rfl <| l_q rfl (qi rfl rfl (b_neq ·)) <| lc <| t_if rfl (fun z => ?_) fun z => ?_
  · exact sr <| mv rfl rfl <| asg rfl rfl <| lc <| rt <| fr1 rfl ([arenaH pa s]) (.tmp rfl) ⟨rfl, rfl⟩
  · exact absurd z (by decide)
theorem SPromote_dead (po : Nat) (sd : Int) : FnOk Tryz.prog 104 #[.agg #[.pointer (some ⟨pa, 0, none⟩), .int .i64 l.key, .int .i64 l.elem, .int .i64 l.ka, .int .i64 l.ea, .int .i64 l.cap, .int .i64 l.eo, .int .i64 l.bo, .int .i64 l.slot, .int .i64 l.group, .int .i64 (off : Nat)], .pointer (some ⟨po, 0, none⟩), .int .u64 sd] [arenaH pa s] (fun v L => v = .tuple #[.agg #[.pointer none, .int .i64 0, .int .i64 0, .int .i64 0, .int .i64 0, .int .i64 0, .int .i64 0, .int .i64 0, .int .i64 0, .int .i64 0, .int .i64 0], .int .i64 24] ∧ L = [arenaH pa s]) := by
  refine fn_intro en104 Tryz.func104 rfl rfl rfl fun Fr w0 => t_nm ?_
  refine sr <| o_boxA rfl rfl fun b3 => o_box1 rfl rfl rfl fun b4 => o_box1 rfl rfl rfl fun b5 => o_allocA rfl yZ34 fun b6 => o_alloc1 rfl yZ44 rfl fun b7 => lc <| t_seq <| sr <| l_q rfl (qlda rfl yA98 yS98) ?_
  refine lc1 rfl rfl rfl (SStat_dead pa off s l hg hne ho) ?_
  refine mv rfl rfl <| l_q rfl (q_extractL rfl ga) ?_
  refine l_q rfl (q_extractL rfl ga) ?_
  refine o_allocA rfl yZ105 fun b8 => sta rfl rfl rfl yS105 rfl rfl ?_
  refine asg rfl rfl <| lz <| mv rfl rfl <| l_q rfl (qi rfl rfl (b_neq ·)) <| lc <| t_if rfl (fun z => ?_) fun z => ?_
  · refine sr ?_
    apply l_q rfl
    · apply q_buildS rfl yP34 yZ34
      · exact FillR.nil
    refine mv rfl rfl <| sta rfl rfl rfl yS34 rfl rfl ?_
    refine st rfl rfl rfl yS44 rfl ?_
    refine lc <| rt ?_
    apply f_ret (.inl rfl) ([arenaH pa s])
    · apply res2 rfl
      · apply Rv.agg rfl
        · exact tk
        · exact run_loadAll yA34 yS34 rfl
      · apply Rv.cellL rfl
        · exact tk
        · exact ga
        · exact yA44
    · exact ⟨rfl, rfl⟩
    · exact en
  · exact absurd z (by decide)
end
end Go.Proofs.YtgijnebgchkenaaGreatDoor.Small
