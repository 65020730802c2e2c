/- SmallPins answers true. -/
import Derived.Test.YtgijnebgchkenaaGreatDoorBenchSN
import Derived.Test.YtgijnebgchkenaaGreatDoorSmallD
import Derived.Test.YtgijnebgchkenaaGreatDoorRef02
set_option linter.unusedVariables false
set_option linter.unusedSimpArgs false
set_option maxRecDepth 100000
namespace Go.Proofs.YtgijnebgchkenaaGreatDoor.BenchS
open Go.RowKit Go.Proofs Go.Proofs.YtgijnebgchkenaaGreatDoor.Eng Go.Proofs.YtgijnebgchkenaaGreatDoor.Ty Go.Proofs.YtgijnebgchkenaaGreatDoor.Bits Go.Proofs.YtgijnebgchkenaaGreatDoor.Mem Go.Proofs.YtgijnebgchkenaaGreatDoor.Layout Go.Proofs.YtgijnebgchkenaaGreatDoor.GroupB Go.Proofs.YtgijnebgchkenaaGreatDoor.Group Go.Proofs.YtgijnebgchkenaaGreatDoor.TableB Go.Proofs.YtgijnebgchkenaaGreatDoor.TableI Go.Proofs.YtgijnebgchkenaaGreatDoor.CtrlB Go.Proofs.YtgijnebgchkenaaGreatDoor.Ctrl Go.Proofs.YtgijnebgchkenaaGreatDoor.Small Go.Proofs.YtgijnebgchkenaaGreatDoor.Arena Go.Proofs.YtgijnebgchkenaaGreatDoor.Oracle Go.Proofs.YtgijnebgchkenaaGreatDoor.Ref03 Go.Proofs.YtgijnebgchkenaaGreatDoor.Ref11 Go.Proofs.YtgijnebgchkenaaGreatDoor.Cells

theorem twoI_le {n : Int} {m : Nat} (hm : m ≤ 16) (h : n ≤ 16 * 2 ^ m) : twoI n ≤ 16 * 2 ^ m := by
  unfold twoI
  cases e : (List.range 17).find? (fun e => decide (n ≤ 16 * 2 ^ e)) with
  | none =>
    have := Int.pow_pos (n := 2) (m := m) (by decide)
    simp only; omega
  | some k =>
    rw [List.find?_range_eq_some] at e
    obtain ⟨h1, h2, h3⟩ := e
    have hk : k ≤ m := by
      rcases Nat.lt_or_ge m k with q | q
      · have := h3 m q; simp only [Bool.not_eq_true', decide_eq_false_iff_not] at this; exact absurd h this
      · exact q
    have p1 : 2 ^ k ≤ 2 ^ m := Nat.pow_le_pow_right (by decide) hk
    have pc := pow_cast k
    have pm := pow_cast m
    simp only
    omega
theorem fit16 {l : Lay} (hl : l.err = 0) : classI (32 + l.group) ≤ 65536 := by
  have hb := Lay.bnd hl
  have := twoI_le (n := 32 + l.group) (m := 8) (by decide) (by omega)
  unfold classI
  split
  · decide
  · split <;> omega
theorem SOff_ok (pa : Nat) (l : Lay) (off : Int) : FnOk Tryz.prog 47 #[.agg #[.pointer (some ⟨pa, 0, none⟩), .int .i64 l.key, .int .i64 l.elem, .int .i64 l.ka, .int .i64 l.ea, .int .i64 l.cap, .int .i64 l.eo, .int .i64 l.bo, .int .i64 l.slot, .int .i64 l.group, .int .i64 off]] [] (fun v L => v = .int .i64 off ∧ L = []) := by
  refine fn_intro en47 Tryz.func47 rfl rfl rfl fun Fr w0 => t_nm ?_
  refine sr <| o_boxA rfl rfl fun b1 => asg rfl rfl <| lz <| l_q rfl (qfa 10 rfl yU98 rfl rfl yS3) <| l_q rfl (qld rfl yA3) ?_
  exact asg rfl rfl <| lc <| rt <| fr1 rfl ([]) (.tmp rfl) ⟨rfl, rfl⟩
/-- Where just one block ever was. -/
structure One (s : ArS) (off : Nat) (c : Int) : Prop where
  ok : s.ok
  all : s.all = [(((off : Nat) : Int), c)]
  dead : ∀ o, s.dead o = false
theorem one_new {s : ArS} {c limit : Int} (hs : (ArS.new limit).ok) (h : NewB (ArS.new limit) s c) (hok : s.ok) : One s ((ArS.new limit).at c) c := by
  have h1 : (ArS.new limit).frL c = [] := rfl
  obtain ⟨e1, e2⟩ := take_nil hs h1
  refine ⟨hok, ?_, fun o => ?_⟩
  · rw [h.all, e1, e2]; rfl
  · rw [h.dead, e1]; rfl
section
variable {s : ArS} {off : Nat} {c : Int} (h : One s off c)
include h
theorem One.mem : (((off : Nat) : Int), c) ∈ s.bl := by
  rw [mem_bl, h.all]
  exact ⟨List.mem_singleton_self _, h.dead _⟩
theorem One.live : s.live = c := by
  unfold ArS.live ArS.bl
  rw [List.filter_eq_self.2 fun p _ => by rw [h.dead]; rfl, h.all]
  simp only [ArS.sum]
  omega
theorem One.gives : (s.gives [((off : Nat) : Int)]).ok ∧ (s.gives [((off : Nat) : Int)]).live = 0 ∧ (s.gives [((off : Nat) : Int)]).bl = [] ∧ (s.gives [((off : Nat) : Int)]).all ≠ [] := by
  have m1 := h.mem
  have hlv := h.live
  have o1 := give_ok h.ok m1
  have l1 := give_live h.ok m1
  refine ⟨o1, by show (s.give _).live = 0; omega, ?_, by rw [gives_all, h.all]; simp⟩
  rw [List.eq_nil_iff_forall_not_mem]
  intro p hp
  obtain ⟨a, b⟩ := gives_bl.1 hp
  rw [mem_bl, h.all] at a
  rw [List.mem_singleton.1 a.1] at b
  simp at b
end
theorem ended_ok (pb pa po off : Nat) (l : Lay) (vf vo vt : Value) (sd : Int) (S : Sm) (ad : Nat) (s : ArS) (hP : SmP s off l S) (h1 : One s off (classI (32 + l.group))) :
    FnOk Tryz.prog 48 #[.pointer (some ⟨pb, 0, none⟩)] [pt pb (.cells (bsc pa po l off vf vo sd vt S.cells ad).toArray 101 (0, 0)), arenaH pa s] (fun v L => v = .bool true ∧ L = []) := by
  have hbd := Lay.bnd hP.hl
  have hm := h1.mem
  have hlv := h1.live
  have hst := h1.ok.stop_eq
  have hge := goodP.end_le h1.ok hP.gh
  obtain ⟨gok, glv, gbl, gne⟩ := h1.gives
  have ho9 : off ≤ 1000000000 := by omega
  obtain ⟨s2, hs2⟩ : ∃ s2, s2 = s.gives [((off : Nat) : Int)] := ⟨_, rfl⟩
  rw [← hs2] at gok glv gbl gne
  have hng : ¬ goodP s2 (off : Nat) 8 := fun ⟨_, p, hp, _⟩ => by rw [gbl] at hp; cases hp
  refine fn_intro en48 Tryz.func48 rfl rfl rfl fun Fr w0 => t_nm ?_
  refine sr <| asg rfl rfl <| lc <| t_seq <| t_seq <| t_draw mixed ?_
  apply dq 0 rfl
  · exact yq (q_move rfl)
  apply dq 1 rfl
  · exact yq (q_nilCheck rfl)
  apply dq 2 rfl
  · exact yq (qfa 0 rfl yU101 rfl rfl yS30)
  apply dq 3 rfl
  · exact yq (qld rfl yA30)
  apply dq 5 rfl
  · exact yq (q_move rfl)
  apply dq 6 rfl
  · exact yq (q_nilCheck rfl)
  apply dq 7 rfl
  · exact yq (qfa 1 rfl yU101 rfl rfl yS32)
  apply dq 8 rfl
  · exact yq (qfa 8 rfl yU32 rfl rfl yS3)
  apply dq 9 rfl
  · exact yq (qld rfl yA3)
  apply dq 10 rfl
  · exact yq (qadd rfl rfl)
  refine d_eff1 [3, 2, 1, 0] [10, 9, 8, 7, 6, 5] 4 [(23, _)] gO ⟨rfl, trivial⟩ (by kernel_rfl) (by kernel_rfl) fun Ex => ?_
  refine lc1 rfl rfl rfl (Live_ok pa s) ?_
  refine l_nil ?_
  apply n_d
  · refine ⟨?_, ?_, ?_, ?_, ?_, ?_, trivial⟩
    · apply ya rfl rfl; exact yq (qadd rfl rfl)
    · apply ya rfl rfl; exact yq (qld rfl yA3)
    · apply ya rfl rfl; exact yq (qfa 8 rfl yU32 rfl rfl yS3)
    · apply ya rfl rfl; exact yq (qfa 1 rfl yU101 rfl rfl yS32)
    · apply ya rfl rfl; exact yq (q_nilCheck rfl)
    · apply ya rfl rfl; exact yq (q_move rfl)
  refine d_eff1 [10, 9, 8, 7, 6, 5] [] 11 [(30, _)] gO ⟨rfl, trivial⟩ (by kernel_rfl) (by kernel_rfl) fun Ex => ?_
  refine lc1 rfl rfl rfl (Class02_ok _) ?_
  refine l_nil ?_
  apply n_d
  · exact trivial
  apply dq 12 rfl
  · exact yq (qi rfl rfl (b_neq ·))
  apply dq 13 rfl
  · exact yq (q_move rfl)
  refine d_pt (t := 33) rfl (fun p1 => ?_) fun p1 => ?_
  · omega
  · apply dq 14 rfl
    · exact yq_on rfl rfl (q_move rfl)
    apply dq 15 rfl
    · exact yq_on rfl rfl (q_nilCheck rfl)
    apply dq 16 rfl
    · exact yq_on rfl rfl (qfa 11 rfl yU101 rfl rfl yS98)
    apply dq 17 rfl
    · exact yq_on rfl rfl (qlda rfl yA98 yS98)
    refine d_eff1 [17, 13, 16, 12, 15, 14] [] 18 [(37, _), (33, _)] gO ⟨rfl, rfl, trivial⟩ (by kernel_rfl) (by kernel_rfl) fun Ex => ?_
    refine l_on rfl rfl <| lc1 rfl rfl rfl (SFree_ok pa off s l S hP _ hm) ?_
    rw [← hs2]
    refine l_nil ?_
    apply n_d
    · exact trivial
    refine d_eff1 [] [] 19 [(38, _), (33, _)] gO ⟨rfl, rfl, trivial⟩ (by kernel_rfl) (by kernel_rfl) fun Ex => ?_
    refine l_on rfl rfl <| lc1 rfl rfl rfl (num11_ok _) ?_
    refine l_nil ?_
    apply n_d
    · exact trivial
    apply dq 20 rfl
    · exact yq_on rfl rfl (qi rfl rfl (b_neq ·))
    apply dq 21 rfl
    · exact yq (q_pk rfl rfl)
    apply dq 22 rfl
    · exact yq (q_move rfl)
    refine d_pt (t := 42) rfl (fun p2 => ?_) fun p2 => ?_
    · exact absurd rfl p2
    · apply dq 23 rfl
      · exact yq_on rfl rfl (q_move rfl)
      apply dq 24 rfl
      · exact yq_on rfl rfl (q_nilCheck rfl)
      apply dq 25 rfl
      · exact yq_on rfl rfl (qfa 0 rfl yU101 rfl rfl yS30)
      apply dq 26 rfl
      · exact yq_on rfl rfl (qld rfl yA30)
      refine d_eff1 [26, 22, 25, 21, 24, 20, 23] [] 27 [(46, _), (42, _)] gO ⟨rfl, rfl, trivial⟩ (by kernel_rfl) (by kernel_rfl) fun Ex => ?_
      refine l_on rfl rfl <| lc1 rfl rfl rfl (Live_ok pa s2) ?_
      refine l_nil ?_
      apply n_d
      · exact trivial
      apply dq 28 rfl
      · exact yq_on rfl rfl (qi rfl rfl (b_neq ·))
      apply dq 29 rfl
      · exact yq (q_pk rfl rfl)
      refine d_end (by kernel_rfl) ?_
      refine n_code <| t_if rfl (fun p3 => ?_) fun p3 => ?_
      · omega
      · refine t_skip <| nz <| asg rfl rfl <| lz <| mv rfl rfl <| l_q rfl (q_nilCheck rfl) <| l_q rfl (qfa 11 rfl yU101 rfl rfl yS98) <| l_q rfl (qlda rfl yA98 yS98) ?_
        refine lc1 rfl rfl rfl (SStat_dead pa off s2 l hng gne ho9) ?_
        refine mv rfl rfl <| l_q rfl (q_extractL rfl ga) ?_
        refine l_q rfl (q_extractL rfl ga) ?_
        refine o_allocA rfl yZ105 fun b4 => sta rfl rfl rfl yS105 rfl rfl ?_
        refine asg rfl rfl <| lz <| mv rfl rfl <| l_q rfl (q_nilCheck rfl) <| l_q rfl (qfa 11 rfl yU101 rfl rfl yS98) <| l_q rfl (qlda rfl yA98 yS98) ?_
        refine lc1 rfl rfl rfl (SFind_dead pa off s2 l hng gne ho9 _ _) ?_
        refine mv rfl rfl <| l_q rfl (q_extractL rfl ga) ?_
        refine l_q rfl (q_extractL rfl ga) ?_
        refine asg rfl rfl <| asg rfl rfl <| lz <| mv rfl rfl <| l_q rfl (q_nilCheck rfl) <| l_q rfl (qfa 11 rfl yU101 rfl rfl yS98) <| l_q rfl (qlda rfl yA98 yS98) ?_
        refine lc1 rfl rfl rfl (SGet_dead pa off s2 l hng gne ho9 _ _) ?_
        refine mv rfl rfl <| l_q rfl (q_extractL rfl ga) ?_
        refine l_q rfl (q_extractL rfl ga) ?_
        refine o_allocA rfl yZ54 fun b8 => sta rfl rfl rfl yS54 rfl rfl ?_
        refine asg rfl rfl <| lz <| mv rfl rfl <| l_q rfl (q_nilCheck rfl) <| l_q rfl (qfa 11 rfl yU101 rfl rfl yS98) <| l_q rfl (qlda rfl yA98 yS98) ?_
        refine lc1 rfl rfl rfl (SPut_dead pa off s2 l hng gne ho9 _ _ _ _) ?_
        refine mv rfl rfl <| l_q rfl (q_extractL rfl ga) ?_
        refine l_q rfl (q_extractL rfl ga) ?_
        refine asg rfl rfl <| asg rfl rfl <| lz <| mv rfl rfl <| l_q rfl (q_nilCheck rfl) <| l_q rfl (qfa 11 rfl yU101 rfl rfl yS98) <| l_q rfl (qlda rfl yA98 yS98) ?_
        refine lc1 rfl rfl rfl (SDelete_dead pa off s2 l hng gne ho9 _ _) ?_
        refine mv rfl rfl <| l_q rfl (q_extractL rfl ga) ?_
        refine l_q rfl (q_extractL rfl ga) ?_
        refine asg rfl rfl <| asg rfl rfl <| lz <| mv rfl rfl <| l_q rfl (q_nilCheck rfl) <| l_q rfl (qfa 11 rfl yU101 rfl rfl yS98) <| l_q rfl (qlda rfl yA98 yS98) ?_
        refine lc1 rfl rfl rfl (SCell_dead pa off s2 l hng gne ho9 _) ?_
        refine mv rfl rfl <| l_q rfl (q_extractL rfl ga) ?_
        refine l_q rfl (q_extractL rfl ga) ?_
        refine o_allocA rfl yZ54 fun b14 => sta rfl rfl rfl yS54 rfl rfl ?_
        refine asg rfl rfl <| lz <| mv rfl rfl <| l_q rfl (q_nilCheck rfl) <| l_q rfl (qfa 11 rfl yU101 rfl rfl yS98) <| l_q rfl (qlda rfl yA98 yS98) ?_
        refine lc1 rfl rfl rfl (SPin_dead pa off s2 l hng gne ho9 _) ?_
        refine mv rfl rfl <| l_q rfl (q_extractL rfl ga) ?_
        refine l_q rfl (q_extractL rfl ga) ?_
        refine asg rfl rfl <| asg rfl rfl <| lc <| t_seq <| t_draw mixed ?_
        apply dq 0 rfl
        · exact yq (q_move rfl)
        apply dq 1 rfl
        · exact yq (q_nilCheck rfl)
        apply dq 2 rfl
        · exact yq (qfa 11 rfl yU101 rfl rfl yS98)
        apply dq 3 rfl
        · exact yq (qlda rfl yA98 yS98)
        apply dq 4 rfl
        · exact yq (q_move rfl)
        apply dq 5 rfl
        · exact yq (q_nilCheck rfl)
        apply dq 6 rfl
        · exact yq (qfa 10 rfl yU101 rfl rfl yS74)
        apply dq 7 rfl
        · exact yq (qld rfl yA74)
        apply d_eff2 8 12
        · kernel_rfl
        · apply effAt (q1 := [3, 7, 2, 6, 1, 5, 0, 4]) (q2 := []) [(110, _), (114, _)]
          · exact gO
          · exact ⟨rfl, rfl, trivial⟩
          · kernel_rfl
          intro Ex
          refine lc1 rfl rfl rfl (SPromote_dead pa off s2 l hng gne ho9 po 0) ?_
          refine l_nil ?_
          apply n_d
          · exact trivial
          apply dq 9 rfl
          · exact yq (q_move rfl)
          apply dq 10 rfl
          · exact yq (q_extractL rfl ga)
          apply dq 11 rfl
          · exact yq (q_extractL rfl ga)
          refine d_eff1 [] [11, 10, 9] 12 [] gO trivial (by kernel_rfl) (by kernel_rfl) fun Ex => ?_
          refine o_allocA rfl yZ34 fun b18 => l_nil ?_
          apply n_d
          · refine ⟨?_, ?_, ?_, trivial⟩
            · apply ya rfl rfl; exact yq (q_extractL rfl ga)
            · apply ya rfl rfl; exact yq (q_extractL rfl ga)
            · apply ya rfl rfl; exact yq (q_move rfl)
          refine d_eff1 [10, 9] [11] 13 [(18, _), (116, _)] gO ⟨rfl, rfl, trivial⟩ (by kernel_rfl) (by kernel_rfl) fun Ex => ?_
          refine sta rfl rfl rfl yS34 rfl rfl ?_
          refine l_nil ?_
          apply n_d
          · refine ⟨?_, trivial⟩
            · apply ya rfl rfl; exact yq (q_extractL rfl ga)
          refine d_eff1 [11] [] 14 [(117, _)] gO ⟨rfl, trivial⟩ (by kernel_rfl) (by kernel_rfl) fun Ex => ?_
          refine asg rfl rfl <| l_nil ?_
          apply n_d
          · exact trivial
          refine d_end (by kernel_rfl) ?_
          refine n_code <| t_seq <| sr <| mv rfl rfl <| lc1 rfl rfl rfl (num11_ok _) ?_
          refine mv rfl rfl <| l_q rfl (qi rfl rfl (b_neq ·)) <| mv rfl rfl <| l_pt (t := 122) rfl (fun r0 => ?_) fun r0 => ?_
          · exact absurd rfl r0
          · refine l_on rfl rfl <| mv rfl rfl <| l_on rfl rfl <| lc1 rfl rfl rfl (num11_ok _) ?_
            refine l_on rfl rfl <| mv rfl rfl <| l_on rfl rfl <| l_q rfl (qi rfl rfl (b_neq ·)) <| l_q rfl (q_pk rfl rfl) <| mv rfl rfl <| l_pt (t := 128) rfl (fun r1 => ?_) fun r1 => ?_
            · exact absurd rfl r1
            · refine l_on rfl rfl <| mv rfl rfl <| l_on rfl rfl <| lc1 rfl rfl rfl (num11_ok _) ?_
              refine l_on rfl rfl <| mv rfl rfl <| l_on rfl rfl <| l_q rfl (qi rfl rfl (b_neq ·)) <| l_q rfl (q_pk rfl rfl) <| mv rfl rfl <| l_pt (t := 134) rfl (fun r2 => ?_) fun r2 => ?_
              · exact absurd rfl r2
              · refine l_on rfl rfl <| mv rfl rfl <| l_on rfl rfl <| lc1 rfl rfl rfl (num11_ok _) ?_
                refine l_on rfl rfl <| mv rfl rfl <| l_on rfl rfl <| l_q rfl (qi rfl rfl (b_neq ·)) <| l_q rfl (q_pk rfl rfl) <| mv rfl rfl <| l_pt (t := 140) rfl (fun r3 => ?_) fun r3 => ?_
                · exact absurd rfl r3
                · refine l_on rfl rfl <| mv rfl rfl <| l_on rfl rfl <| lc1 rfl rfl rfl (num11_ok _) ?_
                  refine l_on rfl rfl <| mv rfl rfl <| l_on rfl rfl <| l_q rfl (qi rfl rfl (b_neq ·)) <| l_q rfl (q_pk rfl rfl) <| mv rfl rfl <| l_pt (t := 146) rfl (fun r4 => ?_) fun r4 => ?_
                  · exact absurd rfl r4
                  · refine l_on rfl rfl <| mv rfl rfl <| l_on rfl rfl <| lc1 rfl rfl rfl (num11_ok _) ?_
                    refine l_on rfl rfl <| mv rfl rfl <| l_on rfl rfl <| l_q rfl (qi rfl rfl (b_neq ·)) <| l_q rfl (q_pk rfl rfl) <| mv rfl rfl <| l_pt (t := 152) rfl (fun r5 => ?_) fun r5 => ?_
                    · exact absurd rfl r5
                    · refine l_on rfl rfl <| mv rfl rfl <| l_on rfl rfl <| lc1 rfl rfl rfl (num11_ok _) ?_
                      refine l_on rfl rfl <| mv rfl rfl <| l_on rfl rfl <| l_q rfl (qi rfl rfl (b_neq ·)) <| l_q rfl (q_pk rfl rfl) <| mv rfl rfl <| l_pt (t := 158) rfl (fun r6 => ?_) fun r6 => ?_
                      · exact absurd rfl r6
                      · refine l_on rfl rfl <| mv rfl rfl <| l_on rfl rfl <| lc1 rfl rfl rfl (num11_ok _) ?_
                        refine l_on rfl rfl <| mv rfl rfl <| l_on rfl rfl <| l_q rfl (qi rfl rfl (b_neq ·)) <| l_q rfl (q_pk rfl rfl) <| lc <| t_if rfl (fun r7 => ?_) fun r7 => ?_
                        · exact absurd rfl r7
                        · refine t_skip <| nz <| mv rfl rfl <| l_q rfl (q_nilCheck rfl) <| l_q rfl (qfa 11 rfl yU101 rfl rfl yS98) <| l_q rfl (qlda rfl yA98 yS98) ?_
                          refine lc1 rfl rfl rfl (SFree_dead pa off s2 l hng gne ho9) ?_
                          refine lc1 rfl rfl rfl (num11_ok _) ?_
                          refine mv rfl rfl <| l_q rfl (qi rfl rfl (b_eql ·)) <| mv rfl rfl <| l_pt (t := 172) rfl (fun w0 => ?_) fun w0 => ?_
                          · refine l_on rfl rfl <| mv rfl rfl <| l_on rfl rfl <| l_q rfl (q_nilCheck rfl) <| l_on rfl rfl <| l_q rfl (qfa 11 rfl yU101 rfl rfl yS98) <| l_on rfl rfl <| l_q rfl (qlda rfl yA98 yS98) ?_
                            refine l_on rfl rfl <| lc1 rfl rfl rfl (SRetire_dead pa off s2 l hng gne ho9 _) ?_
                            refine l_on rfl rfl <| lc1 rfl rfl rfl (num11_ok _) ?_
                            refine l_on rfl rfl <| mv rfl rfl <| l_on rfl rfl <| l_q rfl (qi rfl rfl (b_eql ·)) <| l_q rfl (q_pk rfl rfl) <| mv rfl rfl <| l_pt (t := 182) rfl (fun w1 => ?_) fun w1 => ?_
                            · refine l_on rfl rfl <| mv rfl rfl <| l_on rfl rfl <| l_q rfl (q_nilCheck rfl) <| l_on rfl rfl <| l_q rfl (qfa 11 rfl yU101 rfl rfl yS98) <| l_on rfl rfl <| l_q rfl (qlda rfl yA98 yS98) ?_
                              refine l_on rfl rfl <| lc1 rfl rfl rfl (SSetNext_dead pa off s2 l hng gne ho9 _) ?_
                              refine l_on rfl rfl <| lc1 rfl rfl rfl (num11_ok _) ?_
                              refine l_on rfl rfl <| mv rfl rfl <| l_on rfl rfl <| l_q rfl (qi rfl rfl (b_eql ·)) <| l_q rfl (q_pk rfl rfl) <| mv rfl rfl <| l_pt (t := 192) rfl (fun w2 => ?_) fun w2 => ?_
                              · refine l_on rfl rfl <| mv rfl rfl <| l_on rfl rfl <| l_q rfl (q_nilCheck rfl) <| l_on rfl rfl <| l_q rfl (qfa 0 rfl yU101 rfl rfl yS30) <| l_on rfl rfl <| l_q rfl (qld rfl yA30) ?_
                                refine l_on rfl rfl <| lc1 rfl rfl rfl (Live_ok pa s2) ?_
                                refine l_on rfl rfl <| l_q rfl (qi rfl rfl (b_eql ·)) <| l_q rfl (q_pk rfl rfl) <| asg rfl rfl <| lc <| rt <| fr1 rfl ([]) (.tmp rfl) ?_
                                rw [glv]; exact ⟨rfl, rfl⟩
                              · exact absurd rfl w2
                            · exact absurd rfl w1
                          · exact absurd rfl w0
        · apply effAt (q1 := []) (q2 := [7, 6, 5, 4, 3, 2, 1, 0]) []
          · exact gO
          · exact trivial
          · kernel_rfl
          intro Ex
          refine o_allocA rfl yZ34 fun b18 => l_nil ?_
          apply n_d
          · refine ⟨?_, ?_, ?_, ?_, ?_, ?_, ?_, ?_, trivial⟩
            · apply ya rfl rfl; exact yq (qld rfl yA74)
            · apply ya rfl rfl; exact yq (qfa 10 rfl yU101 rfl rfl yS74)
            · apply ya rfl rfl; exact yq (q_nilCheck rfl)
            · apply ya rfl rfl; exact yq (q_move rfl)
            · apply ya rfl rfl; exact yq (qlda rfl yA98 yS98)
            · apply ya rfl rfl; exact yq (qfa 11 rfl yU101 rfl rfl yS98)
            · apply ya rfl rfl; exact yq (q_nilCheck rfl)
            · apply ya rfl rfl; exact yq (q_move rfl)
          refine d_eff1 [3, 7, 2, 6, 1, 5, 0, 4] [] 8 [(110, _), (114, _)] gO ⟨rfl, rfl, trivial⟩ (by kernel_rfl) (by kernel_rfl) fun Ex => ?_
          refine lc1 rfl rfl rfl (SPromote_dead pa off s2 l hng gne ho9 po 0) ?_
          refine l_nil ?_
          apply n_d
          · exact trivial
          apply dq 9 rfl
          · exact yq (q_move rfl)
          apply dq 10 rfl
          · exact yq (q_extractL rfl ga)
          apply dq 11 rfl
          · exact yq (q_extractL rfl ga)
          refine d_eff1 [10, 9] [11] 13 [(18, _), (116, _)] gO ⟨rfl, rfl, trivial⟩ (by kernel_rfl) (by kernel_rfl) fun Ex => ?_
          refine sta rfl rfl rfl yS34 rfl rfl ?_
          refine l_nil ?_
          apply n_d
          · refine ⟨?_, trivial⟩
            · apply ya rfl rfl; exact yq (q_extractL rfl ga)
          refine d_eff1 [11] [] 14 [(117, _)] gO ⟨rfl, trivial⟩ (by kernel_rfl) (by kernel_rfl) fun Ex => ?_
          refine asg rfl rfl <| l_nil ?_
          apply n_d
          · exact trivial
          refine d_end (by kernel_rfl) ?_
          refine n_code <| t_seq <| sr <| mv rfl rfl <| lc1 rfl rfl rfl (num11_ok _) ?_
          refine mv rfl rfl <| l_q rfl (qi rfl rfl (b_neq ·)) <| mv rfl rfl <| l_pt (t := 122) rfl (fun r0 => ?_) fun r0 => ?_
          · exact absurd rfl r0
          · refine l_on rfl rfl <| mv rfl rfl <| l_on rfl rfl <| lc1 rfl rfl rfl (num11_ok _) ?_
            refine l_on rfl rfl <| mv rfl rfl <| l_on rfl rfl <| l_q rfl (qi rfl rfl (b_neq ·)) <| l_q rfl (q_pk rfl rfl) <| mv rfl rfl <| l_pt (t := 128) rfl (fun r1 => ?_) fun r1 => ?_
            · exact absurd rfl r1
            · refine l_on rfl rfl <| mv rfl rfl <| l_on rfl rfl <| lc1 rfl rfl rfl (num11_ok _) ?_
              refine l_on rfl rfl <| mv rfl rfl <| l_on rfl rfl <| l_q rfl (qi rfl rfl (b_neq ·)) <| l_q rfl (q_pk rfl rfl) <| mv rfl rfl <| l_pt (t := 134) rfl (fun r2 => ?_) fun r2 => ?_
              · exact absurd rfl r2
              · refine l_on rfl rfl <| mv rfl rfl <| l_on rfl rfl <| lc1 rfl rfl rfl (num11_ok _) ?_
                refine l_on rfl rfl <| mv rfl rfl <| l_on rfl rfl <| l_q rfl (qi rfl rfl (b_neq ·)) <| l_q rfl (q_pk rfl rfl) <| mv rfl rfl <| l_pt (t := 140) rfl (fun r3 => ?_) fun r3 => ?_
                · exact absurd rfl r3
                · refine l_on rfl rfl <| mv rfl rfl <| l_on rfl rfl <| lc1 rfl rfl rfl (num11_ok _) ?_
                  refine l_on rfl rfl <| mv rfl rfl <| l_on rfl rfl <| l_q rfl (qi rfl rfl (b_neq ·)) <| l_q rfl (q_pk rfl rfl) <| mv rfl rfl <| l_pt (t := 146) rfl (fun r4 => ?_) fun r4 => ?_
                  · exact absurd rfl r4
                  · refine l_on rfl rfl <| mv rfl rfl <| l_on rfl rfl <| lc1 rfl rfl rfl (num11_ok _) ?_
                    refine l_on rfl rfl <| mv rfl rfl <| l_on rfl rfl <| l_q rfl (qi rfl rfl (b_neq ·)) <| l_q rfl (q_pk rfl rfl) <| mv rfl rfl <| l_pt (t := 152) rfl (fun r5 => ?_) fun r5 => ?_
                    · exact absurd rfl r5
                    · refine l_on rfl rfl <| mv rfl rfl <| l_on rfl rfl <| lc1 rfl rfl rfl (num11_ok _) ?_
                      refine l_on rfl rfl <| mv rfl rfl <| l_on rfl rfl <| l_q rfl (qi rfl rfl (b_neq ·)) <| l_q rfl (q_pk rfl rfl) <| mv rfl rfl <| l_pt (t := 158) rfl (fun r6 => ?_) fun r6 => ?_
                      · exact absurd rfl r6
                      · refine l_on rfl rfl <| mv rfl rfl <| l_on rfl rfl <| lc1 rfl rfl rfl (num11_ok _) ?_
                        refine l_on rfl rfl <| mv rfl rfl <| l_on rfl rfl <| l_q rfl (qi rfl rfl (b_neq ·)) <| l_q rfl (q_pk rfl rfl) <| lc <| t_if rfl (fun r7 => ?_) fun r7 => ?_
                        · exact absurd rfl r7
                        · refine t_skip <| nz <| mv rfl rfl <| l_q rfl (q_nilCheck rfl) <| l_q rfl (qfa 11 rfl yU101 rfl rfl yS98) <| l_q rfl (qlda rfl yA98 yS98) ?_
                          refine lc1 rfl rfl rfl (SFree_dead pa off s2 l hng gne ho9) ?_
                          refine lc1 rfl rfl rfl (num11_ok _) ?_
                          refine mv rfl rfl <| l_q rfl (qi rfl rfl (b_eql ·)) <| mv rfl rfl <| l_pt (t := 172) rfl (fun w0 => ?_) fun w0 => ?_
                          · refine l_on rfl rfl <| mv rfl rfl <| l_on rfl rfl <| l_q rfl (q_nilCheck rfl) <| l_on rfl rfl <| l_q rfl (qfa 11 rfl yU101 rfl rfl yS98) <| l_on rfl rfl <| l_q rfl (qlda rfl yA98 yS98) ?_
                            refine l_on rfl rfl <| lc1 rfl rfl rfl (SRetire_dead pa off s2 l hng gne ho9 _) ?_
                            refine l_on rfl rfl <| lc1 rfl rfl rfl (num11_ok _) ?_
                            refine l_on rfl rfl <| mv rfl rfl <| l_on rfl rfl <| l_q rfl (qi rfl rfl (b_eql ·)) <| l_q rfl (q_pk rfl rfl) <| mv rfl rfl <| l_pt (t := 182) rfl (fun w1 => ?_) fun w1 => ?_
                            · refine l_on rfl rfl <| mv rfl rfl <| l_on rfl rfl <| l_q rfl (q_nilCheck rfl) <| l_on rfl rfl <| l_q rfl (qfa 11 rfl yU101 rfl rfl yS98) <| l_on rfl rfl <| l_q rfl (qlda rfl yA98 yS98) ?_
                              refine l_on rfl rfl <| lc1 rfl rfl rfl (SSetNext_dead pa off s2 l hng gne ho9 _) ?_
                              refine l_on rfl rfl <| lc1 rfl rfl rfl (num11_ok _) ?_
                              refine l_on rfl rfl <| mv rfl rfl <| l_on rfl rfl <| l_q rfl (qi rfl rfl (b_eql ·)) <| l_q rfl (q_pk rfl rfl) <| mv rfl rfl <| l_pt (t := 192) rfl (fun w2 => ?_) fun w2 => ?_
                              · refine l_on rfl rfl <| mv rfl rfl <| l_on rfl rfl <| l_q rfl (q_nilCheck rfl) <| l_on rfl rfl <| l_q rfl (qfa 0 rfl yU101 rfl rfl yS30) <| l_on rfl rfl <| l_q rfl (qld rfl yA30) ?_
                                refine l_on rfl rfl <| lc1 rfl rfl rfl (Live_ok pa s2) ?_
                                refine l_on rfl rfl <| l_q rfl (qi rfl rfl (b_eql ·)) <| l_q rfl (q_pk rfl rfl) <| asg rfl rfl <| lc <| rt <| fr1 rfl ([]) (.tmp rfl) ?_
                                rw [glv]; exact ⟨rfl, rfl⟩
                              · exact absurd rfl w2
                            · exact absurd rfl w1
                          · exact absurd rfl w0
def markC (t : Int × Int) : List Value := [.int .i64 t.1, .int .i64 t.2]
/-- A slice of marks that can be read in the piece A. -/
def MarksAt (A : HP) (v : Value) (ts : List (Int × Int)) : Prop := ∃ a cap, v = .slice a ts.length cap ∧ (0 < ts.length → ∃ b o, a = some ⟨b, o, none⟩ ∧ ∀ (i : Nat) t, ts[i]? = some t → ∀ (j : Nat) x, (markC t)[j]? = some x → CellAt A ⟨b, o + i * 2 + j, none⟩ x)
def markWf (t : Int × Int) : Prop := -9223372036854775808 ≤ t.2 ∧ t.2 ≤ 9223372036854775807
theorem cell_mark {A : HP} {ts : List (Int × Int)} {b o i : Nat} {t : Int × Int} (h : ∀ (i : Nat) t, ts[i]? = some t → ∀ (j : Nat) x, (markC t)[j]? = some x → CellAt A ⟨b, o + i * 2 + j, none⟩ x) (ht : ts[i]? = some t) :
    ∀ j x, [Value.int .i64 t.1, .int .i64 t.2][j]? = some x → CellAt A ((⟨b, o + (i : Int).toNat * 2, none⟩ : Addr).add j) x := fun j x hx => by
  rw [add_none, Int.toNat_natCast]
  exact h i t ht j x hx
theorem SBH.re {kk pp nn : Int} {tg : ByteArray → Nat} {S : Sm} (h : SBH kk pp nn tg S) : SBH S.kind S.pins S.next tg S := by rw [h.kd, h.pn, h.nx]; exact h
theorem SBH.head {kk pp nn : Int} {tg : ByteArray → Nat} {S S' : Sm} (h : SBH kk pp nn tg S) (hc : S'.cells = S.cells) (hu : S'.used = S.used) : SBH S'.kind S'.pins S'.next tg S' :=
  ⟨rfl, rfl, rfl, by rw [hu, hc]; exact h.used, by rw [hc]; exact h.nodel, by rw [hc]; exact h.tag, by rw [hc]; exact h.uniq⟩
theorem of_decS {p : Prop} {i : Decidable p} (h : decide p = true) : p := of_decide_eq_true h
set_option maxHeartbeats 4000000 in
theorem SmallPins_ok (G : HP) (hGT : TabOk G) (hGO : OddOk G) (vf vo vt vm : Value) (sd : Int) (hsd : 0 ≤ sd ∧ sd < 18446744073709551616) (xs : List Int) (os : List (ByteArray × Int)) (ts : List (Int × Int)) (hA : IntsAt G vf xs) (hO : OversAt G vo os) (hn0 : ∀ n c, vo = .slice none n c → c = 0 ∧ os = []) (how : ∀ o ∈ os, 0 ≤ o.2 ∧ o.2 < 18446744073709551616) (hM : MarksAt G vm ts) (hmt : ts.length ≤ maxLen) (htw : ∀ t ∈ ts, markWf t) :
    FnOk Tryz.prog 5 #[.agg #[vf, vo, .int .u64 sd, vt], vm] [G] (fun v L => v = .bool true ∧ L = [G]) := by
  simp only [maxLen] at hmt
  obtain ⟨ta, tcap, rfl, hT0⟩ := hM
  refine fn_intro en5 Tryz.func5 rfl rfl rfl fun Fr w0 => t_nm ?_
  refine sr <| o_boxA rfl rfl fun b2 => asg rfl rfl <| lz <| l_q rfl (qlda rfl yA90 yS90) ?_
  refine lcf rfl rfl rfl (bench_ok G vf vo _ sd xs os hA hO hn0 65536 (by omega) (fun hl => fit16 hl)) ?_
  rintro v L' (⟨rfl, rfl⟩ | ⟨pa, pb, po, bm, off, l, s0, m, _, hl, hgo, hm0, rfl, rfl, hP0, hNB, hoff⟩)
  refine l_nm ?_
  · skip
    refine l_nm ?_
    refine mv rfl rfl <| l_q rfl (q_extractL rfl ga) ?_
    refine l_q rfl (q_extractL rfl ga) ?_
    refine l_q rfl (q_extractL rfl ga) ?_
    refine asg rfl rfl <| asg rfl rfl <| asg rfl rfl <| lc <| t_seq <| sr <| mv rfl rfl <| l_q rfl (q_un rfl (u_not ·)) <| lc <| t_if rfl (fun p1 => ?_) fun p1 => ?_
    · exact sr <| asg rfl rfl <| lc <| rt <| fr1 rfl ([G]) (.tmp rfl) ⟨rfl, rfl⟩
    · cases p1
  · have hm : OverOk m := by rw [hm0]; exact mapO_ok how
    have hbd := Lay.bnd hl
    have hS0 : SB (tgF m sd) newS := SB.new
    refine l_nm ?_
    refine mv rfl rfl <| l_q rfl (q_extractL rfl ga) ?_
    refine l_q rfl (q_extractL rfl ga) ?_
    refine l_q rfl (q_extractL rfl ga) ?_
    refine asg rfl rfl <| asg rfl rfl <| asg rfl rfl <| lc <| t_seq <| sr <| mv rfl rfl <| l_q rfl (q_un rfl (u_not ·)) <| lc <| t_if rfl (fun p1 => ?_) fun p1 => ?_
    · cases p1
    · refine t_skip <| n_code <| t_seq <| sr <| mv rfl rfl <| l_q rfl (q_un rfl (u_not ·)) <| lc <| t_if rfl (fun p2 => ?_) fun p2 => ?_
      · cases p2
      · skip
        refine t_pure (φ := s0.ok) (fun w hw => arena_ok (pa := pa) hw tk) fun hok0 => ?_
        have hOn := one_new (ArS.new_ok (by decide)) hNB hok0
        rw [← hoff] at hOn
        refine t_skip <| nz <| asg rfl rfl <| asg rfl rfl <| asg rfl rfl <| lc <| t_seq <| sr <| mv rfl rfl <| l_q rfl (ql rfl yU91) <| mv rfl rfl <| lc <| t_block ?_
        refine t_loop (fun x : Nat × ArS × Sm × Nat => x.1 ≤ ts.length ∧ SmP x.2.1 off l x.2.2.1 ∧ SBH x.2.2.1.kind x.2.2.1.pins x.2.2.1.next (tgF m sd) x.2.2.1 ∧ (0 ≤ x.2.2.1.pins ∧ x.2.2.1.pins ≤ 4611686018427387904) ∧ (x.2.2.1.kind = 1 ∨ x.2.2.1.kind = 3) ∧ x.2.2.2 ≤ x.1 ∧ Lays s0 x.2.1) (fun x => [(5, .pointer (some ⟨pb, 0, none⟩)), (8, .int .i64 x.2.2.1.pins), (9, .int .i64 x.2.2.1.next), (10, .bool (decide (x.2.2.1.kind = 3))), (33, .slice ta ts.length tcap), (34, .int .i64 (ts.length : Nat)), (35, .int .i64 (x.1 : Nat))]) (fun x => pt pb (.cells (bsc pa po l off vf vo sd vt x.2.2.1.cells x.2.2.2).toArray 101 (0, 0)) :: pt po (.cells #[.map (some bm)] 191 (0, 0)) :: mapH (fun k : ByteArray => Value.string k) bm m :: G :: arenaH pa x.2.1 :: Fr) (fun x => ts.length - x.1) (0, s0, newS, 0) ⟨Nat.zero_le _, hP0, hS0.re, ⟨Int.le_refl 0, (by show (0 : Int) ≤ 4611686018427387904; decide)⟩, .inl rfl, Nat.le_refl _, Lays.refl _⟩ ⟨rfl, rfl, rfl, rfl, rfl, rfl, rfl, trivial⟩ (by (exact en)) ?_
        rintro ⟨i, s, S, ad⟩ ⟨hi, hP, hS, hpb, hkd, had, hLy⟩
        dsimp only at hi hP hS hpb hkd had hLy ⊢
        have hneg : IntKind.i64.wrap (0 - S.pins) = -S.pins := by rw [wrap_i64 (by omega)]; omega
        refine sr <| l_q rfl (qi rfl rfl (b_lss ·)) <| lc <| t_seq <| t_if rfl (fun g1 => ?_) fun g1 => ?_
        · skip
          obtain ⟨tb, to, rfl, hT1⟩ := hT0 (by omega)
          obtain ⟨t, ht⟩ : ∃ t, ts[i]? = some t := ⟨ts[i], List.getElem?_eq_getElem (by omega)⟩
          have hcell := cell_mark hT1 ht
          have hw := htw t (List.mem_of_getElem? ht)
          unfold markWf at hw
          refine t_skip <| n_code <| t_seq <| t_block <| sr <| l_q rfl (q_indexAddr rfl rfl yU91 yS96 (by omega)) ?_
          apply l_q rfl
          · apply q_loadRA (A := G) (us := [.int .i64 t.1, .int .i64 t.2]) rfl yA96 yS96 rfl
            · exact tk
            · exact hcell
          refine o_allocA rfl yZ96 fun b12 => sta rfl rfl rfl yS96 rfl rfl ?_
          refine lc <| t_seq <| sr <| l_q rfl (qfa 0 rfl yU96 rfl rfl yS3) <| l_q rfl (qld rfl yA3) ?_
          refine lc <| t_block <| sr <| l_q rfl (qi rfl rfl (b_eql ·)) <| asg rfl rfl <| lc <| t_if rfl (fun k1 => ?_) fun k1 => ?_
          · refine t_seq <| t_draw mixed ?_
            apply dq 0 rfl
            · exact yq (q_move rfl)
            apply dq 1 rfl
            · exact yq (q_nilCheck rfl)
            apply dq 2 rfl
            · exact yq (qfa 11 rfl yU101 rfl rfl yS98)
            apply dq 3 rfl
            · exact yq (qlda rfl yA98 yS98)
            apply dq 4 rfl
            · exact yq (qfa 1 rfl yU96 rfl rfl yS3)
            apply dq 5 rfl
            · exact yq (qld rfl yA3)
            refine d_eff1 [3, 5, 2, 4, 1, 0] [] 6 [(47, _), (49, _)] gO ⟨rfl, rfl, trivial⟩ (by kernel_rfl) (by kernel_rfl) fun Ex => ?_
            refine lcf rfl rfl rfl (SPin_ok pa off s l S hP t.2 hw hpb) ?_
            rintro v L' (⟨hb, rfl, rfl⟩ | ⟨hb1, hb2, s1, rfl, rfl, hP1, hL1⟩)
            refine l_nm ?_
            · skip
              obtain ⟨s1, rfl⟩ : ∃ s1, s1 = s := ⟨_, rfl⟩
              obtain ⟨S1, rfl⟩ : ∃ S1, S1 = S := ⟨_, rfl⟩
              obtain ⟨ad1, rfl⟩ : ∃ ad1, ad1 = ad := ⟨_, rfl⟩
              have hP1 := hP
              have hS1 := hS
              have hkd1 := hkd
              have hpb1 := hpb
              have hL1 := hLy
              have had1 : ad1 ≤ i + 1 := by omega
              have hpe : S1.pins = S1.pins := rfl
              have hne : S1.next = S1.next := rfl
              have hke : decide (S1.kind = 3) = decide (S1.kind = 3) := rfl
              have hce : S1.cells = S1.cells := rfl
              refine l_nm ?_
              refine l_nil ?_
              apply n_d
              · exact trivial
              apply dq 7 rfl
              · exact yq (q_move rfl)
              apply dq 8 rfl
              · exact yq (q_extractL rfl ga)
              apply dq 9 rfl
              · exact yq (q_extractL rfl ga)
              refine d_eff1 [8, 7] [9] 10 [(51, _)] gO ⟨rfl, trivial⟩ (by kernel_rfl) (by kernel_rfl) fun Ex => ?_
              refine asg rfl rfl <| l_nil ?_
              apply n_d
              · refine ⟨?_, trivial⟩
                · apply ya rfl rfl; exact yq (q_extractL rfl ga)
              refine d_eff1 [9] [] 11 [(52, _)] gO ⟨rfl, trivial⟩ (by kernel_rfl) (by kernel_rfl) fun Ex => ?_
              refine asg rfl rfl <| l_nil ?_
              apply n_d
              · exact trivial
              refine d_end (by kernel_rfl) ?_
              refine n_code <| t_seq <| sr <| l_q rfl (qfa 1 rfl yU96 rfl rfl yS3) <| l_q rfl (qld rfl yA3) ?_
              refine mv rfl rfl <| l_q rfl (q_un rfl (u_neg ·)) <| l_q rfl (qi rfl rfl (b_lss ·)) <| mv rfl rfl ?_
              rw [hneg]
              refine l_pt (t := 58) rfl (fun q1 => ?_) fun q1 => ?_
              · refine l_off rfl rfl rfl rfl <| l_off rfl rfl rfl rfl <| l_off rfl rfl rfl rfl <| l_off rfl rfl rfl rfl <| l_off rfl rfl rfl rfl <| l_q rfl (q_pk rfl rfl) <| lc <| t_cond_t rfl <| t_seq <| sr <| mv rfl rfl <| lc1 rfl rfl rfl (num11_ok _) ?_
                refine l_q rfl (qi rfl rfl (b_neq ·)) <| mv rfl rfl <| l_pt (t := 68) rfl (fun q2 => ?_) fun q2 => ?_
                · exact absurd rfl q2
                · refine l_on rfl rfl <| mv rfl rfl <| l_on rfl rfl <| l_q rfl (qi rfl rfl (b_neq ·)) <| l_q rfl (q_pk rfl rfl) <| lc <| t_if rfl (fun q3 => ?_) fun q3 => ?_
                  · exact absurd rfl q3
                  · refine t_skip <| n_code <| xt rfl <| nz <| asg rfl rfl <| lc <| t_seq <| sr <| asg rfl rfl <| lc <| t_block ?_
                    have hload : loadN s1.m off 8 = S1.kind := by rw [show off = off + 8 * 0 by omega, hP1.head 0 (by decide)]; show IntKind.u64.wrap S1.kind = S1.kind; rw [wrap_u64 (by omega)]
                    refine t_loop (fun k : Nat => k ≤ 8) (fun k => [(5, .pointer (some ⟨pb, 0, none⟩)), (8, .int .i64 S1.pins), (9, .int .i64 S1.next), (10, .bool (decide (S1.kind = 3))), (15, .int .i64 (cnt isFull S1.cells k : Nat)), (16, .int .i64 (k : Nat)), (33, .slice (some ⟨tb, to, none⟩) ts.length tcap), (34, .int .i64 (ts.length : Nat)), (35, .int .i64 (i : Nat))]) (fun _ => pt pb (.cells (bsc pa po l off vf vo sd vt S1.cells ad1).toArray 101 (0, 0)) :: pt po (.cells #[.map (some bm)] 191 (0, 0)) :: mapH (fun k : ByteArray => Value.string k) bm m :: G :: arenaH pa s1 :: Fr) (fun k => 8 - k) 0 (Nat.zero_le _) ⟨rfl, by first | rfl | (rw [hpe]; done) | (rw [hpe]; rfl), by first | rfl | (rw [hne]; done) | (rw [hne]; rfl), by first | rfl | (rw [hke]; done) | (rw [hke]; rfl), rfl, rfl, rfl, rfl, rfl, trivial⟩ (by rw [hce]; (exact en)) ?_
                    intro k hk
                    have hcl := cnt_le isFull S1.cells k
                    have hcs := cnt_succ isFull S1.cells k
                    refine t_seq <| sr <| mv rfl rfl <| l_q rfl (qi rfl rfl (b_lss ·)) <| lc <| t_if rfl (fun c0 => ?_) fun c0 => ?_
                    · skip
                      have hi8 : k < 8 := by omega
                      refine t_skip <| n_code <| t_seq <| t_block <| sr <| mv rfl rfl <| l_q rfl (q_nilCheck rfl) <| l_q rfl (qfa 11 rfl yU101 rfl rfl yS98) <| l_q rfl (qlda rfl yA98 yS98) ?_
                      refine mv rfl rfl <| lc1 rfl rfl rfl (SCell_ok pa off s1 l S1 hP1 k hi8) ?_
                      refine mv rfl rfl <| l_q rfl (q_extractL rfl ga) ?_
                      refine l_q rfl (q_extractL rfl ga) ?_
                      refine o_allocA rfl yZ54 fun b17 => sta rfl rfl rfl yS54 rfl rfl ?_
                      refine asg rfl rfl <| lc <| t_seq <| t_seq <| t_draw mixed ?_
                      apply dq 0 rfl
                      · exact yq (q_move rfl)
                      refine d_eff1 [0] [] 1 [(133, _)] gO ⟨rfl, trivial⟩ (by kernel_rfl) (by kernel_rfl) fun Ex => ?_
                      refine lc1 rfl rfl rfl (num11_ok _) ?_
                      refine l_nil ?_
                      apply n_d
                      · exact trivial
                      apply dq 2 rfl
                      · exact yq (qi rfl rfl (b_neq ·))
                      apply dq 3 rfl
                      · exact yq (q_move rfl)
                      refine d_pt (t := 136) rfl (fun c1 => ?_) fun c1 => ?_
                      · exact absurd rfl c1
                      · apply dq 4 rfl
                        · exact yq_on rfl rfl (qlda rfl yA54 yS54)
                        apply dq 5 rfl
                        · exact yq_on rfl rfl (q_move rfl)
                        apply dq 6 rfl
                        · exact yq_on rfl rfl (q_move rfl)
                        apply dq 7 rfl
                        · exact yq_on rfl rfl (q_nilCheck rfl)
                        apply dq 8 rfl
                        · exact yq_on rfl rfl (qfa 26 rfl yU101 rfl rfl yS99)
                        apply dq 9 rfl
                        · exact yq_on rfl rfl (q_indexAddrA rfl rfl yU99 yS54 (by omega))
                        apply dq 10 rfl
                        · apply yq_on rfl rfl
                          apply q_loadAgg rfl yA54 yS54
                          · exact tk
                          · exact bsc_in rfl hi8 (Nat.le_refl _)
                          · exact bsc_part rfl hi8
                        apply dq 11 rfl
                        · exact yq_on rfl rfl (q_bin rfl rfl (g_flat · yG54) fun w => b_neqFlat w yU54 yH54 (by kernel_rfl) (by kernel_rfl))
                        apply dq 12 rfl
                        · exact yq (q_pk rfl rfl)
                        refine d_end (by kernel_rfl) ?_
                        refine n_code <| t_if rfl (fun c2 => ?_) fun c2 => ?_
                        · simp at c2
                        · refine t_skip <| nz <| l_q rfl (qfa 0 rfl yU54 rfl rfl yS3) <| l_q rfl (qld rfl yA3) ?_
                          refine l_q rfl (qi rfl rfl (b_eql ·)) <| lc <| t_if rfl (fun c3 => ?_) fun c3 => ?_
                          · refine t_region <| mv rfl rfl <| l_q rfl (qadd rfl rfl) ?_
                            refine asg rfl rfl <| l_nil <| n_blk <| n_code <| t_region <| mv rfl rfl <| l_q rfl (qadd rfl rfl) ?_
                            refine asg rfl rfl <| l_nil ?_
                            rw [kind_full.1 c3, if_pos rfl] at hcs
                            apply n_again ((k + 1))
                            · exact (show k + 1 ≤ 8 by omega)
                            · omega
                            · exact ⟨rfl, rfl, rfl, rfl, by rw [hcs]; rfl, rfl, rfl, rfl, rfl, trivial⟩
                            · exact en
                          · refine t_skip <| n_blk <| n_code <| t_region <| mv rfl rfl <| l_q rfl (qadd rfl rfl) ?_
                            refine asg rfl rfl <| l_nil ?_
                            rw [if_neg (fun e => c3 (kind_full.2 e))] at hcs
                            apply n_again ((k + 1))
                            · exact (show k + 1 ≤ 8 by omega)
                            · omega
                            · exact ⟨rfl, rfl, rfl, rfl, by rw [hcs]; rfl, rfl, rfl, rfl, rfl, trivial⟩
                            · exact en
                    · obtain rfl : k = 8 := by omega
                      refine xt rfl <| nz <| mv rfl rfl <| l_q rfl (q_nilCheck rfl) <| l_q rfl (qfa 11 rfl yU101 rfl rfl yS98) <| l_q rfl (qlda rfl yA98 yS98) ?_
                      refine lc1 rfl rfl rfl (SStat_ok pa off s1 l S1 hP1) ?_
                      rw [hS1.used]
                      refine mv rfl rfl <| l_q rfl (q_extractL rfl ga) ?_
                      refine l_q rfl (q_extractL rfl ga) ?_
                      refine o_allocA rfl yZ105 fun b19 => sta rfl rfl rfl yS105 rfl rfl ?_
                      refine asg rfl rfl <| lc <| t_seq <| t_draw mixed ?_
                      apply dq 0 rfl
                      · exact yq (q_move rfl)
                      apply dq 1 rfl
                      · exact yq (q_nilCheck rfl)
                      apply dq 2 rfl
                      · exact yq (qfa 0 rfl yU101 rfl rfl yS30)
                      apply dq 3 rfl
                      · exact yq (qld rfl yA30)
                      apply dq 4 rfl
                      · exact yq (q_move rfl)
                      apply dq 5 rfl
                      · exact yq (q_nilCheck rfl)
                      apply dq 6 rfl
                      · exact yq (qfa 11 rfl yU101 rfl rfl yS98)
                      apply dq 7 rfl
                      · exact yq (qlda rfl yA98 yS98)
                      refine d_eff1 [7, 6, 5, 4] [3, 2, 1, 0] 8 [(167, _)] gO ⟨rfl, trivial⟩ (by kernel_rfl) (by kernel_rfl) fun Ex => ?_
                      refine lc1 rfl rfl rfl (SOff_ok pa l (off : Nat)) ?_
                      refine l_nil ?_
                      apply n_d
                      · refine ⟨?_, ?_, ?_, ?_, trivial⟩
                        · apply ya rfl rfl; exact yq (qld rfl yA30)
                        · apply ya rfl rfl; exact yq (qfa 0 rfl yU101 rfl rfl yS30)
                        · apply ya rfl rfl; exact yq (q_nilCheck rfl)
                        · apply ya rfl rfl; exact yq (q_move rfl)
                      refine d_eff1 [3, 2, 1, 0] [] 9 [(163, _), (168, _)] gO ⟨rfl, rfl, trivial⟩ (by kernel_rfl) (by kernel_rfl) fun Ex => ?_
                      refine lc1 rfl rfl rfl (Load_okI pa s1 _ _ off 8 rfl rfl (by unfold wid; decide) (goodP.sub hP1.gh (by omega) (by omega) (by omega))) ?_
                      rw [hload]
                      refine l_nil ?_
                      apply n_d
                      · exact trivial
                      apply dq 10 rfl
                      · exact yq (q_move rfl)
                      apply dq 11 rfl
                      · exact yq (q_extractL rfl ga)
                      apply dq 12 rfl
                      · exact yq (q_extractL rfl ga)
                      refine d_eff1 [11, 10] [12] 13 [(170, _)] gO ⟨rfl, trivial⟩ (by kernel_rfl) (by kernel_rfl) fun Ex => ?_
                      refine asg rfl rfl <| l_nil ?_
                      apply n_d
                      · refine ⟨?_, trivial⟩
                        · apply ya rfl rfl; exact yq (q_extractL rfl ga)
                      refine d_eff1 [12] [] 14 [(171, _)] gO ⟨rfl, trivial⟩ (by kernel_rfl) (by kernel_rfl) fun Ex => ?_
                      refine asg rfl rfl <| l_nil ?_
                      apply n_d
                      · exact trivial
                      refine d_end (by kernel_rfl) ?_
                      refine nz <| mv rfl rfl <| lc1 rfl rfl rfl (num11_ok _) ?_
                      refine l_q rfl (qi rfl rfl (b_neq ·)) <| mv rfl rfl <| l_pt (t := 175) rfl (fun d1 => ?_) fun d1 => ?_
                      · exact absurd rfl d1
                      · refine l_on rfl rfl <| mv rfl rfl <| l_on rfl rfl <| lc1 rfl rfl rfl (num11_ok _) ?_
                        refine l_on rfl rfl <| l_q rfl (qi rfl rfl (b_neq ·)) <| l_q rfl (q_pk rfl rfl) <| mv rfl rfl <| l_pt (t := 180) rfl (fun d2 => ?_) fun d2 => ?_
                        · exact absurd rfl d2
                        · refine l_on rfl rfl <| l_q rfl (qlda rfl yA105 yS105) ?_
                          refine l_on rfl rfl <| mv rfl rfl <| l_on rfl rfl <| mv rfl rfl <| l_on rfl rfl <| mv rfl rfl <| l_on rfl rfl <| mv rfl rfl <| l_on rfl rfl ?_
                          apply l_q rfl
                          · apply q_buildS rfl yP105 yZ105
                            · apply FillR.one
                              · repeat (first | exact PlAt.here | apply PlAt.there)
                              · rfl
                              · exact sa
                              apply FillR.one
                              · repeat (first | exact PlAt.here | apply PlAt.there)
                              · rfl
                              · exact sa
                              apply FillR.one
                              · repeat (first | exact PlAt.here | apply PlAt.there)
                              · rfl
                              · exact sa
                              apply FillR.one
                              · repeat (first | exact PlAt.here | apply PlAt.there)
                              · rfl
                              · exact sa
                              exact FillR.nil
                          refine l_on rfl rfl <| l_q rfl (q_bin rfl rfl (g_flat · yG105) fun w => b_neqFlat w yU105 yH105 (by kernel_rfl) (by kernel_rfl)) ?_
                          refine l_q rfl (q_pk rfl rfl) <| mv rfl rfl <| l_pt (t := 189) rfl (fun d3 => ?_) fun d3 => ?_
                          · exact absurd rfl (of_decS d3)
                          · refine l_on rfl rfl <| mv rfl rfl <| l_on rfl rfl <| l_q rfl (qi rfl rfl (b_eql ·)) <| l_on rfl rfl <| mv rfl rfl <| l_on rfl rfl <| l_q rfl (qb rfl rfl (b_neqB · yU4)) <| l_q rfl (q_pk rfl rfl) <| mv rfl rfl <| l_pt (t := 195) rfl (fun d4 => ?_) fun d4 => ?_
                            · simp at d4
                            · refine l_on rfl rfl <| mv rfl rfl <| l_on rfl rfl <| l_q rfl (qi rfl rfl (b_neq ·)) <| l_on rfl rfl <| mv rfl rfl <| l_pt (t := 198) rfl (fun d5 => ?_) fun d5 => ?_
                              · refine l_on rfl rfl <| mv rfl rfl <| l_on rfl rfl <| l_q rfl (qi rfl rfl (b_neq ·)) <| l_on rfl rfl <| l_q rfl (q_pk rfl rfl) <| l_q rfl (q_pk rfl rfl) <| lc <| t_if rfl (fun d6 => ?_) fun d6 => ?_
                                · omega
                                · refine t_skip <| n_blk <| n_code <| t_region <| l_q rfl (qadd rfl rfl) ?_
                                  refine mv rfl rfl <| l_nil ?_
                                  apply n_again ((i + 1, s1, S1, ad1))
                                  · exact ⟨Nat.succ_le_of_lt (by omega), hP1, hS1, hpb1, hkd1, had1, hL1⟩
                                  · (dsimp only; omega)
                                  · exact ⟨rfl, rfl, rfl, rfl, rfl, rfl, rfl, trivial⟩
                                  · exact en
                              · refine l_off rfl rfl rfl rfl <| l_off rfl rfl rfl rfl <| l_on rfl rfl <| l_q rfl (q_pk rfl rfl) <| l_q rfl (q_pk rfl rfl) <| lc <| t_cond_f rfl <| t_skip <| n_blk <| n_code <| t_region <| l_q rfl (qadd rfl rfl) ?_
                                refine mv rfl rfl <| l_nil ?_
                                apply n_again ((i + 1, s1, S1, ad1))
                                · exact ⟨Nat.succ_le_of_lt (by omega), hP1, hS1, hpb1, hkd1, had1, hL1⟩
                                · (dsimp only; omega)
                                · exact ⟨rfl, rfl, rfl, rfl, rfl, rfl, rfl, trivial⟩
                                · exact en
              · refine l_on rfl rfl <| l_q rfl (qfa 1 rfl yU96 rfl rfl yS3) <| l_on rfl rfl <| l_q rfl (qld rfl yA3) ?_
                refine l_on rfl rfl <| mv rfl rfl <| l_on rfl rfl <| l_q rfl (qsub rfl rfl) ?_
                refine l_on rfl rfl <| l_q rfl (qi rfl rfl (b_gtr ·)) <| l_q rfl (q_pk rfl rfl) <| lc <| t_if rfl (fun q4 => ?_) fun q4 => ?_
                · refine t_seq <| sr <| mv rfl rfl <| lc1 rfl rfl rfl (num11_ok _) ?_
                  refine l_q rfl (qi rfl rfl (b_neq ·)) <| mv rfl rfl <| l_pt (t := 68) rfl (fun q2 => ?_) fun q2 => ?_
                  · exact absurd rfl q2
                  · refine l_on rfl rfl <| mv rfl rfl <| l_on rfl rfl <| l_q rfl (qi rfl rfl (b_neq ·)) <| l_q rfl (q_pk rfl rfl) <| lc <| t_if rfl (fun q3 => ?_) fun q3 => ?_
                    · exact absurd rfl q3
                    · refine t_skip <| n_code <| xt rfl <| nz <| asg rfl rfl <| lc <| t_seq <| sr <| asg rfl rfl <| lc <| t_block ?_
                      have hload : loadN s1.m off 8 = S1.kind := by rw [show off = off + 8 * 0 by omega, hP1.head 0 (by decide)]; show IntKind.u64.wrap S1.kind = S1.kind; rw [wrap_u64 (by omega)]
                      refine t_loop (fun k : Nat => k ≤ 8) (fun k => [(5, .pointer (some ⟨pb, 0, none⟩)), (8, .int .i64 S1.pins), (9, .int .i64 S1.next), (10, .bool (decide (S1.kind = 3))), (15, .int .i64 (cnt isFull S1.cells k : Nat)), (16, .int .i64 (k : Nat)), (33, .slice (some ⟨tb, to, none⟩) ts.length tcap), (34, .int .i64 (ts.length : Nat)), (35, .int .i64 (i : Nat))]) (fun _ => pt pb (.cells (bsc pa po l off vf vo sd vt S1.cells ad1).toArray 101 (0, 0)) :: pt po (.cells #[.map (some bm)] 191 (0, 0)) :: mapH (fun k : ByteArray => Value.string k) bm m :: G :: arenaH pa s1 :: Fr) (fun k => 8 - k) 0 (Nat.zero_le _) ⟨rfl, by first | rfl | (rw [hpe]; done) | (rw [hpe]; rfl), by first | rfl | (rw [hne]; done) | (rw [hne]; rfl), by first | rfl | (rw [hke]; done) | (rw [hke]; rfl), rfl, rfl, rfl, rfl, rfl, trivial⟩ (by rw [hce]; (exact en)) ?_
                      intro k hk
                      have hcl := cnt_le isFull S1.cells k
                      have hcs := cnt_succ isFull S1.cells k
                      refine t_seq <| sr <| mv rfl rfl <| l_q rfl (qi rfl rfl (b_lss ·)) <| lc <| t_if rfl (fun c0 => ?_) fun c0 => ?_
                      · skip
                        have hi8 : k < 8 := by omega
                        refine t_skip <| n_code <| t_seq <| t_block <| sr <| mv rfl rfl <| l_q rfl (q_nilCheck rfl) <| l_q rfl (qfa 11 rfl yU101 rfl rfl yS98) <| l_q rfl (qlda rfl yA98 yS98) ?_
                        refine mv rfl rfl <| lc1 rfl rfl rfl (SCell_ok pa off s1 l S1 hP1 k hi8) ?_
                        refine mv rfl rfl <| l_q rfl (q_extractL rfl ga) ?_
                        refine l_q rfl (q_extractL rfl ga) ?_
                        refine o_allocA rfl yZ54 fun b17 => sta rfl rfl rfl yS54 rfl rfl ?_
                        refine asg rfl rfl <| lc <| t_seq <| t_seq <| t_draw mixed ?_
                        apply dq 0 rfl
                        · exact yq (q_move rfl)
                        refine d_eff1 [0] [] 1 [(133, _)] gO ⟨rfl, trivial⟩ (by kernel_rfl) (by kernel_rfl) fun Ex => ?_
                        refine lc1 rfl rfl rfl (num11_ok _) ?_
                        refine l_nil ?_
                        apply n_d
                        · exact trivial
                        apply dq 2 rfl
                        · exact yq (qi rfl rfl (b_neq ·))
                        apply dq 3 rfl
                        · exact yq (q_move rfl)
                        refine d_pt (t := 136) rfl (fun c1 => ?_) fun c1 => ?_
                        · exact absurd rfl c1
                        · apply dq 4 rfl
                          · exact yq_on rfl rfl (qlda rfl yA54 yS54)
                          apply dq 5 rfl
                          · exact yq_on rfl rfl (q_move rfl)
                          apply dq 6 rfl
                          · exact yq_on rfl rfl (q_move rfl)
                          apply dq 7 rfl
                          · exact yq_on rfl rfl (q_nilCheck rfl)
                          apply dq 8 rfl
                          · exact yq_on rfl rfl (qfa 26 rfl yU101 rfl rfl yS99)
                          apply dq 9 rfl
                          · exact yq_on rfl rfl (q_indexAddrA rfl rfl yU99 yS54 (by omega))
                          apply dq 10 rfl
                          · apply yq_on rfl rfl
                            apply q_loadAgg rfl yA54 yS54
                            · exact tk
                            · exact bsc_in rfl hi8 (Nat.le_refl _)
                            · exact bsc_part rfl hi8
                          apply dq 11 rfl
                          · exact yq_on rfl rfl (q_bin rfl rfl (g_flat · yG54) fun w => b_neqFlat w yU54 yH54 (by kernel_rfl) (by kernel_rfl))
                          apply dq 12 rfl
                          · exact yq (q_pk rfl rfl)
                          refine d_end (by kernel_rfl) ?_
                          refine n_code <| t_if rfl (fun c2 => ?_) fun c2 => ?_
                          · simp at c2
                          · refine t_skip <| nz <| l_q rfl (qfa 0 rfl yU54 rfl rfl yS3) <| l_q rfl (qld rfl yA3) ?_
                            refine l_q rfl (qi rfl rfl (b_eql ·)) <| lc <| t_if rfl (fun c3 => ?_) fun c3 => ?_
                            · refine t_region <| mv rfl rfl <| l_q rfl (qadd rfl rfl) ?_
                              refine asg rfl rfl <| l_nil <| n_blk <| n_code <| t_region <| mv rfl rfl <| l_q rfl (qadd rfl rfl) ?_
                              refine asg rfl rfl <| l_nil ?_
                              rw [kind_full.1 c3, if_pos rfl] at hcs
                              apply n_again ((k + 1))
                              · exact (show k + 1 ≤ 8 by omega)
                              · omega
                              · exact ⟨rfl, rfl, rfl, rfl, by rw [hcs]; rfl, rfl, rfl, rfl, rfl, trivial⟩
                              · exact en
                            · refine t_skip <| n_blk <| n_code <| t_region <| mv rfl rfl <| l_q rfl (qadd rfl rfl) ?_
                              refine asg rfl rfl <| l_nil ?_
                              rw [if_neg (fun e => c3 (kind_full.2 e))] at hcs
                              apply n_again ((k + 1))
                              · exact (show k + 1 ≤ 8 by omega)
                              · omega
                              · exact ⟨rfl, rfl, rfl, rfl, by rw [hcs]; rfl, rfl, rfl, rfl, rfl, trivial⟩
                              · exact en
                      · obtain rfl : k = 8 := by omega
                        refine xt rfl <| nz <| mv rfl rfl <| l_q rfl (q_nilCheck rfl) <| l_q rfl (qfa 11 rfl yU101 rfl rfl yS98) <| l_q rfl (qlda rfl yA98 yS98) ?_
                        refine lc1 rfl rfl rfl (SStat_ok pa off s1 l S1 hP1) ?_
                        rw [hS1.used]
                        refine mv rfl rfl <| l_q rfl (q_extractL rfl ga) ?_
                        refine l_q rfl (q_extractL rfl ga) ?_
                        refine o_allocA rfl yZ105 fun b19 => sta rfl rfl rfl yS105 rfl rfl ?_
                        refine asg rfl rfl <| lc <| t_seq <| t_draw mixed ?_
                        apply dq 0 rfl
                        · exact yq (q_move rfl)
                        apply dq 1 rfl
                        · exact yq (q_nilCheck rfl)
                        apply dq 2 rfl
                        · exact yq (qfa 0 rfl yU101 rfl rfl yS30)
                        apply dq 3 rfl
                        · exact yq (qld rfl yA30)
                        apply dq 4 rfl
                        · exact yq (q_move rfl)
                        apply dq 5 rfl
                        · exact yq (q_nilCheck rfl)
                        apply dq 6 rfl
                        · exact yq (qfa 11 rfl yU101 rfl rfl yS98)
                        apply dq 7 rfl
                        · exact yq (qlda rfl yA98 yS98)
                        refine d_eff1 [7, 6, 5, 4] [3, 2, 1, 0] 8 [(167, _)] gO ⟨rfl, trivial⟩ (by kernel_rfl) (by kernel_rfl) fun Ex => ?_
                        refine lc1 rfl rfl rfl (SOff_ok pa l (off : Nat)) ?_
                        refine l_nil ?_
                        apply n_d
                        · refine ⟨?_, ?_, ?_, ?_, trivial⟩
                          · apply ya rfl rfl; exact yq (qld rfl yA30)
                          · apply ya rfl rfl; exact yq (qfa 0 rfl yU101 rfl rfl yS30)
                          · apply ya rfl rfl; exact yq (q_nilCheck rfl)
                          · apply ya rfl rfl; exact yq (q_move rfl)
                        refine d_eff1 [3, 2, 1, 0] [] 9 [(163, _), (168, _)] gO ⟨rfl, rfl, trivial⟩ (by kernel_rfl) (by kernel_rfl) fun Ex => ?_
                        refine lc1 rfl rfl rfl (Load_okI pa s1 _ _ off 8 rfl rfl (by unfold wid; decide) (goodP.sub hP1.gh (by omega) (by omega) (by omega))) ?_
                        rw [hload]
                        refine l_nil ?_
                        apply n_d
                        · exact trivial
                        apply dq 10 rfl
                        · exact yq (q_move rfl)
                        apply dq 11 rfl
                        · exact yq (q_extractL rfl ga)
                        apply dq 12 rfl
                        · exact yq (q_extractL rfl ga)
                        refine d_eff1 [11, 10] [12] 13 [(170, _)] gO ⟨rfl, trivial⟩ (by kernel_rfl) (by kernel_rfl) fun Ex => ?_
                        refine asg rfl rfl <| l_nil ?_
                        apply n_d
                        · refine ⟨?_, trivial⟩
                          · apply ya rfl rfl; exact yq (q_extractL rfl ga)
                        refine d_eff1 [12] [] 14 [(171, _)] gO ⟨rfl, trivial⟩ (by kernel_rfl) (by kernel_rfl) fun Ex => ?_
                        refine asg rfl rfl <| l_nil ?_
                        apply n_d
                        · exact trivial
                        refine d_end (by kernel_rfl) ?_
                        refine nz <| mv rfl rfl <| lc1 rfl rfl rfl (num11_ok _) ?_
                        refine l_q rfl (qi rfl rfl (b_neq ·)) <| mv rfl rfl <| l_pt (t := 175) rfl (fun d1 => ?_) fun d1 => ?_
                        · exact absurd rfl d1
                        · refine l_on rfl rfl <| mv rfl rfl <| l_on rfl rfl <| lc1 rfl rfl rfl (num11_ok _) ?_
                          refine l_on rfl rfl <| l_q rfl (qi rfl rfl (b_neq ·)) <| l_q rfl (q_pk rfl rfl) <| mv rfl rfl <| l_pt (t := 180) rfl (fun d2 => ?_) fun d2 => ?_
                          · exact absurd rfl d2
                          · refine l_on rfl rfl <| l_q rfl (qlda rfl yA105 yS105) ?_
                            refine l_on rfl rfl <| mv rfl rfl <| l_on rfl rfl <| mv rfl rfl <| l_on rfl rfl <| mv rfl rfl <| l_on rfl rfl <| mv rfl rfl <| l_on rfl rfl ?_
                            apply l_q rfl
                            · apply q_buildS rfl yP105 yZ105
                              · apply FillR.one
                                · repeat (first | exact PlAt.here | apply PlAt.there)
                                · rfl
                                · exact sa
                                apply FillR.one
                                · repeat (first | exact PlAt.here | apply PlAt.there)
                                · rfl
                                · exact sa
                                apply FillR.one
                                · repeat (first | exact PlAt.here | apply PlAt.there)
                                · rfl
                                · exact sa
                                apply FillR.one
                                · repeat (first | exact PlAt.here | apply PlAt.there)
                                · rfl
                                · exact sa
                                exact FillR.nil
                            refine l_on rfl rfl <| l_q rfl (q_bin rfl rfl (g_flat · yG105) fun w => b_neqFlat w yU105 yH105 (by kernel_rfl) (by kernel_rfl)) ?_
                            refine l_q rfl (q_pk rfl rfl) <| mv rfl rfl <| l_pt (t := 189) rfl (fun d3 => ?_) fun d3 => ?_
                            · exact absurd rfl (of_decS d3)
                            · refine l_on rfl rfl <| mv rfl rfl <| l_on rfl rfl <| l_q rfl (qi rfl rfl (b_eql ·)) <| l_on rfl rfl <| mv rfl rfl <| l_on rfl rfl <| l_q rfl (qb rfl rfl (b_neqB · yU4)) <| l_q rfl (q_pk rfl rfl) <| mv rfl rfl <| l_pt (t := 195) rfl (fun d4 => ?_) fun d4 => ?_
                              · simp at d4
                              · refine l_on rfl rfl <| mv rfl rfl <| l_on rfl rfl <| l_q rfl (qi rfl rfl (b_neq ·)) <| l_on rfl rfl <| mv rfl rfl <| l_pt (t := 198) rfl (fun d5 => ?_) fun d5 => ?_
                                · refine l_on rfl rfl <| mv rfl rfl <| l_on rfl rfl <| l_q rfl (qi rfl rfl (b_neq ·)) <| l_on rfl rfl <| l_q rfl (q_pk rfl rfl) <| l_q rfl (q_pk rfl rfl) <| lc <| t_if rfl (fun d6 => ?_) fun d6 => ?_
                                  · omega
                                  · refine t_skip <| n_blk <| n_code <| t_region <| l_q rfl (qadd rfl rfl) ?_
                                    refine mv rfl rfl <| l_nil ?_
                                    apply n_again ((i + 1, s1, S1, ad1))
                                    · exact ⟨Nat.succ_le_of_lt (by omega), hP1, hS1, hpb1, hkd1, had1, hL1⟩
                                    · (dsimp only; omega)
                                    · exact ⟨rfl, rfl, rfl, rfl, rfl, rfl, rfl, trivial⟩
                                    · exact en
                                · refine l_off rfl rfl rfl rfl <| l_off rfl rfl rfl rfl <| l_on rfl rfl <| l_q rfl (q_pk rfl rfl) <| l_q rfl (q_pk rfl rfl) <| lc <| t_cond_f rfl <| t_skip <| n_blk <| n_code <| t_region <| l_q rfl (qadd rfl rfl) ?_
                                  refine mv rfl rfl <| l_nil ?_
                                  apply n_again ((i + 1, s1, S1, ad1))
                                  · exact ⟨Nat.succ_le_of_lt (by omega), hP1, hS1, hpb1, hkd1, had1, hL1⟩
                                  · (dsimp only; omega)
                                  · exact ⟨rfl, rfl, rfl, rfl, rfl, rfl, rfl, trivial⟩
                                  · exact en
                · omega
            · skip
              have hS1 := hS.head (S' := { S with pins := S.pins + t.2 }) rfl rfl
              generalize hE : ({ S with pins := S.pins + t.2 } : Sm) = S1 at hP1 hS1
              obtain ⟨ad1, rfl⟩ : ∃ ad1, ad1 = ad := ⟨_, rfl⟩
              have hkd1 : S1.kind = 1 ∨ S1.kind = 3 := by rw [← hE]; exact hkd
              have hpe : S1.pins = S.pins + t.2 := by rw [← hE]
              have hpb1 : 0 ≤ S1.pins ∧ S1.pins ≤ 4611686018427387904 := by omega
              replace hL1 := hLy.trans hL1
              have had1 : ad1 ≤ i + 1 := by omega
              have hne : S1.next = S.next := by rw [← hE]
              have hke : decide (S1.kind = 3) = decide (S.kind = 3) := by rw [← hE]
              have hce : S1.cells = S.cells := by rw [← hE]
              refine l_nm ?_
              refine l_nil ?_
              apply n_d
              · exact trivial
              apply dq 7 rfl
              · exact yq (q_move rfl)
              apply dq 8 rfl
              · exact yq (q_extractL rfl ga)
              apply dq 9 rfl
              · exact yq (q_extractL rfl ga)
              refine d_eff1 [8, 7] [9] 10 [(51, _)] gO ⟨rfl, trivial⟩ (by kernel_rfl) (by kernel_rfl) fun Ex => ?_
              refine asg rfl rfl <| l_nil ?_
              apply n_d
              · refine ⟨?_, trivial⟩
                · apply ya rfl rfl; exact yq (q_extractL rfl ga)
              refine d_eff1 [9] [] 11 [(52, _)] gO ⟨rfl, trivial⟩ (by kernel_rfl) (by kernel_rfl) fun Ex => ?_
              refine asg rfl rfl <| l_nil ?_
              apply n_d
              · exact trivial
              refine d_end (by kernel_rfl) ?_
              refine n_code <| t_seq <| sr <| l_q rfl (qfa 1 rfl yU96 rfl rfl yS3) <| l_q rfl (qld rfl yA3) ?_
              refine mv rfl rfl <| l_q rfl (q_un rfl (u_neg ·)) <| l_q rfl (qi rfl rfl (b_lss ·)) <| mv rfl rfl ?_
              rw [hneg]
              refine l_pt (t := 58) rfl (fun q1 => ?_) fun q1 => ?_
              · omega
              · refine l_on rfl rfl <| l_q rfl (qfa 1 rfl yU96 rfl rfl yS3) <| l_on rfl rfl <| l_q rfl (qld rfl yA3) ?_
                refine l_on rfl rfl <| mv rfl rfl <| l_on rfl rfl <| l_q rfl (qsub rfl rfl) ?_
                refine l_on rfl rfl <| l_q rfl (qi rfl rfl (b_gtr ·)) <| l_q rfl (q_pk rfl rfl) <| lc <| t_if rfl (fun q4 => ?_) fun q4 => ?_
                · omega
                · refine t_skip <| nz <| mv rfl rfl <| l_q rfl (qfa 1 rfl yU96 rfl rfl yS3) <| l_q rfl (qld rfl yA3) ?_
                  refine l_q rfl (qadd rfl rfl) ?_
                  refine asg rfl rfl <| lz <| mv rfl rfl <| lc1 rfl rfl rfl (num11_ok _) ?_
                  refine l_q rfl (qi rfl rfl (b_neq ·)) <| mv rfl rfl <| l_pt (t := 79) rfl (fun q2 => ?_) fun q2 => ?_
                  · exact absurd rfl q2
                  · refine l_on rfl rfl <| mv rfl rfl <| l_on rfl rfl <| mv rfl rfl <| l_on rfl rfl <| l_q rfl (qi rfl rfl (b_neq ·)) <| l_q rfl (q_pk rfl rfl) <| lc <| t_if rfl (fun q3 => ?_) fun q3 => ?_
                    · exact absurd rfl q3
                    · refine t_skip <| n_blk <| nz <| asg rfl rfl <| lc <| t_seq <| sr <| asg rfl rfl <| lc <| t_block ?_
                      have hload : loadN s1.m off 8 = S1.kind := by rw [show off = off + 8 * 0 by omega, hP1.head 0 (by decide)]; show IntKind.u64.wrap S1.kind = S1.kind; rw [wrap_u64 (by omega)]
                      refine t_loop (fun k : Nat => k ≤ 8) (fun k => [(5, .pointer (some ⟨pb, 0, none⟩)), (8, .int .i64 S1.pins), (9, .int .i64 S1.next), (10, .bool (decide (S1.kind = 3))), (15, .int .i64 (cnt isFull S1.cells k : Nat)), (16, .int .i64 (k : Nat)), (33, .slice (some ⟨tb, to, none⟩) ts.length tcap), (34, .int .i64 (ts.length : Nat)), (35, .int .i64 (i : Nat))]) (fun _ => pt pb (.cells (bsc pa po l off vf vo sd vt S1.cells ad1).toArray 101 (0, 0)) :: pt po (.cells #[.map (some bm)] 191 (0, 0)) :: mapH (fun k : ByteArray => Value.string k) bm m :: G :: arenaH pa s1 :: Fr) (fun k => 8 - k) 0 (Nat.zero_le _) ⟨rfl, by first | rfl | (rw [hpe]; done) | (rw [hpe]; rfl), by first | rfl | (rw [hne]; done) | (rw [hne]; rfl), by first | rfl | (rw [hke]; done) | (rw [hke]; rfl), rfl, rfl, rfl, rfl, rfl, trivial⟩ (by rw [hce]; (exact en)) ?_
                      intro k hk
                      have hcl := cnt_le isFull S1.cells k
                      have hcs := cnt_succ isFull S1.cells k
                      refine t_seq <| sr <| mv rfl rfl <| l_q rfl (qi rfl rfl (b_lss ·)) <| lc <| t_if rfl (fun c0 => ?_) fun c0 => ?_
                      · skip
                        have hi8 : k < 8 := by omega
                        refine t_skip <| n_code <| t_seq <| t_block <| sr <| mv rfl rfl <| l_q rfl (q_nilCheck rfl) <| l_q rfl (qfa 11 rfl yU101 rfl rfl yS98) <| l_q rfl (qlda rfl yA98 yS98) ?_
                        refine mv rfl rfl <| lc1 rfl rfl rfl (SCell_ok pa off s1 l S1 hP1 k hi8) ?_
                        refine mv rfl rfl <| l_q rfl (q_extractL rfl ga) ?_
                        refine l_q rfl (q_extractL rfl ga) ?_
                        refine o_allocA rfl yZ54 fun b17 => sta rfl rfl rfl yS54 rfl rfl ?_
                        refine asg rfl rfl <| lc <| t_seq <| t_seq <| t_draw mixed ?_
                        apply dq 0 rfl
                        · exact yq (q_move rfl)
                        refine d_eff1 [0] [] 1 [(133, _)] gO ⟨rfl, trivial⟩ (by kernel_rfl) (by kernel_rfl) fun Ex => ?_
                        refine lc1 rfl rfl rfl (num11_ok _) ?_
                        refine l_nil ?_
                        apply n_d
                        · exact trivial
                        apply dq 2 rfl
                        · exact yq (qi rfl rfl (b_neq ·))
                        apply dq 3 rfl
                        · exact yq (q_move rfl)
                        refine d_pt (t := 136) rfl (fun c1 => ?_) fun c1 => ?_
                        · exact absurd rfl c1
                        · apply dq 4 rfl
                          · exact yq_on rfl rfl (qlda rfl yA54 yS54)
                          apply dq 5 rfl
                          · exact yq_on rfl rfl (q_move rfl)
                          apply dq 6 rfl
                          · exact yq_on rfl rfl (q_move rfl)
                          apply dq 7 rfl
                          · exact yq_on rfl rfl (q_nilCheck rfl)
                          apply dq 8 rfl
                          · exact yq_on rfl rfl (qfa 26 rfl yU101 rfl rfl yS99)
                          apply dq 9 rfl
                          · exact yq_on rfl rfl (q_indexAddrA rfl rfl yU99 yS54 (by omega))
                          apply dq 10 rfl
                          · apply yq_on rfl rfl
                            apply q_loadAgg rfl yA54 yS54
                            · exact tk
                            · exact bsc_in rfl hi8 (Nat.le_refl _)
                            · exact bsc_part rfl hi8
                          apply dq 11 rfl
                          · exact yq_on rfl rfl (q_bin rfl rfl (g_flat · yG54) fun w => b_neqFlat w yU54 yH54 (by kernel_rfl) (by kernel_rfl))
                          apply dq 12 rfl
                          · exact yq (q_pk rfl rfl)
                          refine d_end (by kernel_rfl) ?_
                          refine n_code <| t_if rfl (fun c2 => ?_) fun c2 => ?_
                          · simp at c2
                          · refine t_skip <| nz <| l_q rfl (qfa 0 rfl yU54 rfl rfl yS3) <| l_q rfl (qld rfl yA3) ?_
                            refine l_q rfl (qi rfl rfl (b_eql ·)) <| lc <| t_if rfl (fun c3 => ?_) fun c3 => ?_
                            · refine t_region <| mv rfl rfl <| l_q rfl (qadd rfl rfl) ?_
                              refine asg rfl rfl <| l_nil <| n_blk <| n_code <| t_region <| mv rfl rfl <| l_q rfl (qadd rfl rfl) ?_
                              refine asg rfl rfl <| l_nil ?_
                              rw [kind_full.1 c3, if_pos rfl] at hcs
                              apply n_again ((k + 1))
                              · exact (show k + 1 ≤ 8 by omega)
                              · omega
                              · exact ⟨rfl, rfl, rfl, rfl, by rw [hcs]; rfl, rfl, rfl, rfl, rfl, trivial⟩
                              · exact en
                            · refine t_skip <| n_blk <| n_code <| t_region <| mv rfl rfl <| l_q rfl (qadd rfl rfl) ?_
                              refine asg rfl rfl <| l_nil ?_
                              rw [if_neg (fun e => c3 (kind_full.2 e))] at hcs
                              apply n_again ((k + 1))
                              · exact (show k + 1 ≤ 8 by omega)
                              · omega
                              · exact ⟨rfl, rfl, rfl, rfl, by rw [hcs]; rfl, rfl, rfl, rfl, rfl, trivial⟩
                              · exact en
                      · obtain rfl : k = 8 := by omega
                        refine xt rfl <| nz <| mv rfl rfl <| l_q rfl (q_nilCheck rfl) <| l_q rfl (qfa 11 rfl yU101 rfl rfl yS98) <| l_q rfl (qlda rfl yA98 yS98) ?_
                        refine lc1 rfl rfl rfl (SStat_ok pa off s1 l S1 hP1) ?_
                        rw [hS1.used]
                        refine mv rfl rfl <| l_q rfl (q_extractL rfl ga) ?_
                        refine l_q rfl (q_extractL rfl ga) ?_
                        refine o_allocA rfl yZ105 fun b19 => sta rfl rfl rfl yS105 rfl rfl ?_
                        refine asg rfl rfl <| lc <| t_seq <| t_draw mixed ?_
                        apply dq 0 rfl
                        · exact yq (q_move rfl)
                        apply dq 1 rfl
                        · exact yq (q_nilCheck rfl)
                        apply dq 2 rfl
                        · exact yq (qfa 0 rfl yU101 rfl rfl yS30)
                        apply dq 3 rfl
                        · exact yq (qld rfl yA30)
                        apply dq 4 rfl
                        · exact yq (q_move rfl)
                        apply dq 5 rfl
                        · exact yq (q_nilCheck rfl)
                        apply dq 6 rfl
                        · exact yq (qfa 11 rfl yU101 rfl rfl yS98)
                        apply dq 7 rfl
                        · exact yq (qlda rfl yA98 yS98)
                        refine d_eff1 [7, 6, 5, 4] [3, 2, 1, 0] 8 [(167, _)] gO ⟨rfl, trivial⟩ (by kernel_rfl) (by kernel_rfl) fun Ex => ?_
                        refine lc1 rfl rfl rfl (SOff_ok pa l (off : Nat)) ?_
                        refine l_nil ?_
                        apply n_d
                        · refine ⟨?_, ?_, ?_, ?_, trivial⟩
                          · apply ya rfl rfl; exact yq (qld rfl yA30)
                          · apply ya rfl rfl; exact yq (qfa 0 rfl yU101 rfl rfl yS30)
                          · apply ya rfl rfl; exact yq (q_nilCheck rfl)
                          · apply ya rfl rfl; exact yq (q_move rfl)
                        refine d_eff1 [3, 2, 1, 0] [] 9 [(163, _), (168, _)] gO ⟨rfl, rfl, trivial⟩ (by kernel_rfl) (by kernel_rfl) fun Ex => ?_
                        refine lc1 rfl rfl rfl (Load_okI pa s1 _ _ off 8 rfl rfl (by unfold wid; decide) (goodP.sub hP1.gh (by omega) (by omega) (by omega))) ?_
                        rw [hload]
                        refine l_nil ?_
                        apply n_d
                        · exact trivial
                        apply dq 10 rfl
                        · exact yq (q_move rfl)
                        apply dq 11 rfl
                        · exact yq (q_extractL rfl ga)
                        apply dq 12 rfl
                        · exact yq (q_extractL rfl ga)
                        refine d_eff1 [11, 10] [12] 13 [(170, _)] gO ⟨rfl, trivial⟩ (by kernel_rfl) (by kernel_rfl) fun Ex => ?_
                        refine asg rfl rfl <| l_nil ?_
                        apply n_d
                        · refine ⟨?_, trivial⟩
                          · apply ya rfl rfl; exact yq (q_extractL rfl ga)
                        refine d_eff1 [12] [] 14 [(171, _)] gO ⟨rfl, trivial⟩ (by kernel_rfl) (by kernel_rfl) fun Ex => ?_
                        refine asg rfl rfl <| l_nil ?_
                        apply n_d
                        · exact trivial
                        refine d_end (by kernel_rfl) ?_
                        refine nz <| mv rfl rfl <| lc1 rfl rfl rfl (num11_ok _) ?_
                        refine l_q rfl (qi rfl rfl (b_neq ·)) <| mv rfl rfl <| l_pt (t := 175) rfl (fun d1 => ?_) fun d1 => ?_
                        · exact absurd rfl d1
                        · refine l_on rfl rfl <| mv rfl rfl <| l_on rfl rfl <| lc1 rfl rfl rfl (num11_ok _) ?_
                          refine l_on rfl rfl <| l_q rfl (qi rfl rfl (b_neq ·)) <| l_q rfl (q_pk rfl rfl) <| mv rfl rfl <| l_pt (t := 180) rfl (fun d2 => ?_) fun d2 => ?_
                          · exact absurd rfl d2
                          · refine l_on rfl rfl <| l_q rfl (qlda rfl yA105 yS105) ?_
                            refine l_on rfl rfl <| mv rfl rfl <| l_on rfl rfl <| mv rfl rfl <| l_on rfl rfl <| mv rfl rfl <| l_on rfl rfl <| mv rfl rfl <| l_on rfl rfl ?_
                            apply l_q rfl
                            · apply q_buildS rfl yP105 yZ105
                              · apply FillR.one
                                · repeat (first | exact PlAt.here | apply PlAt.there)
                                · rfl
                                · exact sa
                                apply FillR.one
                                · repeat (first | exact PlAt.here | apply PlAt.there)
                                · rfl
                                · exact sa
                                apply FillR.one
                                · repeat (first | exact PlAt.here | apply PlAt.there)
                                · rfl
                                · exact sa
                                apply FillR.one
                                · repeat (first | exact PlAt.here | apply PlAt.there)
                                · rfl
                                · exact sa
                                exact FillR.nil
                            refine l_on rfl rfl <| l_q rfl (q_bin rfl rfl (g_flat · yG105) fun w => b_neqFlat w yU105 yH105 (by kernel_rfl) (by kernel_rfl)) ?_
                            refine l_q rfl (q_pk rfl rfl) <| mv rfl rfl <| l_pt (t := 189) rfl (fun d3 => ?_) fun d3 => ?_
                            · exact absurd rfl (of_decS d3)
                            · refine l_on rfl rfl <| mv rfl rfl <| l_on rfl rfl <| l_q rfl (qi rfl rfl (b_eql ·)) <| l_on rfl rfl <| mv rfl rfl <| l_on rfl rfl <| l_q rfl (qb rfl rfl (b_neqB · yU4)) <| l_q rfl (q_pk rfl rfl) <| mv rfl rfl <| l_pt (t := 195) rfl (fun d4 => ?_) fun d4 => ?_
                              · simp at d4
                              · refine l_on rfl rfl <| mv rfl rfl <| l_on rfl rfl <| l_q rfl (qi rfl rfl (b_neq ·)) <| l_on rfl rfl <| mv rfl rfl <| l_pt (t := 198) rfl (fun d5 => ?_) fun d5 => ?_
                                · refine l_on rfl rfl <| mv rfl rfl <| l_on rfl rfl <| l_q rfl (qi rfl rfl (b_neq ·)) <| l_on rfl rfl <| l_q rfl (q_pk rfl rfl) <| l_q rfl (q_pk rfl rfl) <| lc <| t_if rfl (fun d6 => ?_) fun d6 => ?_
                                  · omega
                                  · refine t_skip <| n_blk <| n_code <| t_region <| l_q rfl (qadd rfl rfl) ?_
                                    refine mv rfl rfl <| l_nil ?_
                                    apply n_again ((i + 1, s1, S1, ad1))
                                    · exact ⟨Nat.succ_le_of_lt (by omega), hP1, hS1, hpb1, hkd1, had1, hL1⟩
                                    · (dsimp only; omega)
                                    · exact ⟨rfl, rfl, rfl, rfl, rfl, rfl, rfl, trivial⟩
                                    · exact en
                                · refine l_off rfl rfl rfl rfl <| l_off rfl rfl rfl rfl <| l_on rfl rfl <| l_q rfl (q_pk rfl rfl) <| l_q rfl (q_pk rfl rfl) <| lc <| t_cond_f rfl <| t_skip <| n_blk <| n_code <| t_region <| l_q rfl (qadd rfl rfl) ?_
                                  refine mv rfl rfl <| l_nil ?_
                                  apply n_again ((i + 1, s1, S1, ad1))
                                  · exact ⟨Nat.succ_le_of_lt (by omega), hP1, hS1, hpb1, hkd1, had1, hL1⟩
                                  · (dsimp only; omega)
                                  · exact ⟨rfl, rfl, rfl, rfl, rfl, rfl, rfl, trivial⟩
                                  · exact en
          · refine sr <| l_q rfl (qi rfl rfl (b_eql ·)) <| asg rfl rfl <| lc <| t_if rfl (fun k2 => ?_) fun k2 => ?_
            · refine sr <| l_q rfl (qfa 1 rfl yU96 rfl rfl yS3) <| l_q rfl (qld rfl yA3) ?_
              refine asg rfl rfl <| asg rfl rfl <| lc <| t_seq <| t_draw mixed ?_
              apply dq 0 rfl
              · exact yq (q_move rfl)
              apply dq 1 rfl
              · exact yq (q_nilCheck rfl)
              apply dq 2 rfl
              · exact yq (qfa 11 rfl yU101 rfl rfl yS98)
              apply dq 3 rfl
              · exact yq (qlda rfl yA98 yS98)
              apply dq 4 rfl
              · exact yq (qfa 1 rfl yU96 rfl rfl yS3)
              apply dq 5 rfl
              · exact yq (qld rfl yA3)
              refine d_eff1 [3, 5, 2, 4, 1, 0] [] 6 [(91, _), (93, _)] gO ⟨rfl, rfl, trivial⟩ (by kernel_rfl) (by kernel_rfl) fun Ex => ?_
              refine lcf rfl rfl rfl (SRetire_ok pa off s l S hP t.2 hw) ?_
              rintro v L' ⟨s1, rfl, rfl, hP1, hL1⟩
              refine l_nm ?_
              refine l_nil ?_
              apply n_d
              · exact trivial
              refine d_eff1 [] [] 7 [(94, _)] gO ⟨rfl, trivial⟩ (by kernel_rfl) (by kernel_rfl) fun Ex => ?_
              have hS1 := hS.head (S' := { S with next := t.2, kind := 3 }) rfl rfl
              generalize hE : ({ S with next := t.2, kind := 3 } : Sm) = S1 at hP1 hS1
              obtain ⟨ad1, rfl⟩ : ∃ ad1, ad1 = ad := ⟨_, rfl⟩
              have hkd1 : S1.kind = 1 ∨ S1.kind = 3 := by rw [← hE]; exact .inr rfl
              have hpe : S1.pins = S.pins := by rw [← hE]
              have hpb1 : 0 ≤ S1.pins ∧ S1.pins ≤ 4611686018427387904 := by omega
              replace hL1 := hLy.trans hL1
              have had1 : ad1 ≤ i + 1 := by omega
              have hne : S1.next = t.2 := by rw [← hE]
              have hke : decide (S1.kind = 3) = true := by rw [← hE]; rfl
              have hce : S1.cells = S.cells := by rw [← hE]
              refine lc1 rfl rfl rfl (num11_ok _) ?_
              refine l_nil ?_
              apply n_d
              · exact trivial
              apply dq 8 rfl
              · exact yq (qi rfl rfl (b_neq ·))
              refine d_end (by kernel_rfl) ?_
              refine n_code <| t_if rfl (fun q3 => ?_) fun q3 => ?_
              · exact absurd rfl q3
              · refine t_skip <| n_blk <| nz <| asg rfl rfl <| lc <| t_seq <| sr <| asg rfl rfl <| lc <| t_block ?_
                have hload : loadN s1.m off 8 = S1.kind := by rw [show off = off + 8 * 0 by omega, hP1.head 0 (by decide)]; show IntKind.u64.wrap S1.kind = S1.kind; rw [wrap_u64 (by omega)]
                refine t_loop (fun k : Nat => k ≤ 8) (fun k => [(5, .pointer (some ⟨pb, 0, none⟩)), (8, .int .i64 S1.pins), (9, .int .i64 S1.next), (10, .bool (decide (S1.kind = 3))), (15, .int .i64 (cnt isFull S1.cells k : Nat)), (16, .int .i64 (k : Nat)), (33, .slice (some ⟨tb, to, none⟩) ts.length tcap), (34, .int .i64 (ts.length : Nat)), (35, .int .i64 (i : Nat))]) (fun _ => pt pb (.cells (bsc pa po l off vf vo sd vt S1.cells ad1).toArray 101 (0, 0)) :: pt po (.cells #[.map (some bm)] 191 (0, 0)) :: mapH (fun k : ByteArray => Value.string k) bm m :: G :: arenaH pa s1 :: Fr) (fun k => 8 - k) 0 (Nat.zero_le _) ⟨rfl, by first | rfl | (rw [hpe]; done) | (rw [hpe]; rfl), by first | rfl | (rw [hne]; done) | (rw [hne]; rfl), by first | rfl | (rw [hke]; done) | (rw [hke]; rfl), rfl, rfl, rfl, rfl, rfl, trivial⟩ (by rw [hce]; (exact en)) ?_
                intro k hk
                have hcl := cnt_le isFull S1.cells k
                have hcs := cnt_succ isFull S1.cells k
                refine t_seq <| sr <| mv rfl rfl <| l_q rfl (qi rfl rfl (b_lss ·)) <| lc <| t_if rfl (fun c0 => ?_) fun c0 => ?_
                · skip
                  have hi8 : k < 8 := by omega
                  refine t_skip <| n_code <| t_seq <| t_block <| sr <| mv rfl rfl <| l_q rfl (q_nilCheck rfl) <| l_q rfl (qfa 11 rfl yU101 rfl rfl yS98) <| l_q rfl (qlda rfl yA98 yS98) ?_
                  refine mv rfl rfl <| lc1 rfl rfl rfl (SCell_ok pa off s1 l S1 hP1 k hi8) ?_
                  refine mv rfl rfl <| l_q rfl (q_extractL rfl ga) ?_
                  refine l_q rfl (q_extractL rfl ga) ?_
                  refine o_allocA rfl yZ54 fun b17 => sta rfl rfl rfl yS54 rfl rfl ?_
                  refine asg rfl rfl <| lc <| t_seq <| t_seq <| t_draw mixed ?_
                  apply dq 0 rfl
                  · exact yq (q_move rfl)
                  refine d_eff1 [0] [] 1 [(133, _)] gO ⟨rfl, trivial⟩ (by kernel_rfl) (by kernel_rfl) fun Ex => ?_
                  refine lc1 rfl rfl rfl (num11_ok _) ?_
                  refine l_nil ?_
                  apply n_d
                  · exact trivial
                  apply dq 2 rfl
                  · exact yq (qi rfl rfl (b_neq ·))
                  apply dq 3 rfl
                  · exact yq (q_move rfl)
                  refine d_pt (t := 136) rfl (fun c1 => ?_) fun c1 => ?_
                  · exact absurd rfl c1
                  · apply dq 4 rfl
                    · exact yq_on rfl rfl (qlda rfl yA54 yS54)
                    apply dq 5 rfl
                    · exact yq_on rfl rfl (q_move rfl)
                    apply dq 6 rfl
                    · exact yq_on rfl rfl (q_move rfl)
                    apply dq 7 rfl
                    · exact yq_on rfl rfl (q_nilCheck rfl)
                    apply dq 8 rfl
                    · exact yq_on rfl rfl (qfa 26 rfl yU101 rfl rfl yS99)
                    apply dq 9 rfl
                    · exact yq_on rfl rfl (q_indexAddrA rfl rfl yU99 yS54 (by omega))
                    apply dq 10 rfl
                    · apply yq_on rfl rfl
                      apply q_loadAgg rfl yA54 yS54
                      · exact tk
                      · exact bsc_in rfl hi8 (Nat.le_refl _)
                      · exact bsc_part rfl hi8
                    apply dq 11 rfl
                    · exact yq_on rfl rfl (q_bin rfl rfl (g_flat · yG54) fun w => b_neqFlat w yU54 yH54 (by kernel_rfl) (by kernel_rfl))
                    apply dq 12 rfl
                    · exact yq (q_pk rfl rfl)
                    refine d_end (by kernel_rfl) ?_
                    refine n_code <| t_if rfl (fun c2 => ?_) fun c2 => ?_
                    · simp at c2
                    · refine t_skip <| nz <| l_q rfl (qfa 0 rfl yU54 rfl rfl yS3) <| l_q rfl (qld rfl yA3) ?_
                      refine l_q rfl (qi rfl rfl (b_eql ·)) <| lc <| t_if rfl (fun c3 => ?_) fun c3 => ?_
                      · refine t_region <| mv rfl rfl <| l_q rfl (qadd rfl rfl) ?_
                        refine asg rfl rfl <| l_nil <| n_blk <| n_code <| t_region <| mv rfl rfl <| l_q rfl (qadd rfl rfl) ?_
                        refine asg rfl rfl <| l_nil ?_
                        rw [kind_full.1 c3, if_pos rfl] at hcs
                        apply n_again ((k + 1))
                        · exact (show k + 1 ≤ 8 by omega)
                        · omega
                        · exact ⟨rfl, rfl, rfl, rfl, by rw [hcs]; rfl, rfl, rfl, rfl, rfl, trivial⟩
                        · exact en
                      · refine t_skip <| n_blk <| n_code <| t_region <| mv rfl rfl <| l_q rfl (qadd rfl rfl) ?_
                        refine asg rfl rfl <| l_nil ?_
                        rw [if_neg (fun e => c3 (kind_full.2 e))] at hcs
                        apply n_again ((k + 1))
                        · exact (show k + 1 ≤ 8 by omega)
                        · omega
                        · exact ⟨rfl, rfl, rfl, rfl, by rw [hcs]; rfl, rfl, rfl, rfl, rfl, trivial⟩
                        · exact en
                · obtain rfl : k = 8 := by omega
                  refine xt rfl <| nz <| mv rfl rfl <| l_q rfl (q_nilCheck rfl) <| l_q rfl (qfa 11 rfl yU101 rfl rfl yS98) <| l_q rfl (qlda rfl yA98 yS98) ?_
                  refine lc1 rfl rfl rfl (SStat_ok pa off s1 l S1 hP1) ?_
                  rw [hS1.used]
                  refine mv rfl rfl <| l_q rfl (q_extractL rfl ga) ?_
                  refine l_q rfl (q_extractL rfl ga) ?_
                  refine o_allocA rfl yZ105 fun b19 => sta rfl rfl rfl yS105 rfl rfl ?_
                  refine asg rfl rfl <| lc <| t_seq <| t_draw mixed ?_
                  apply dq 0 rfl
                  · exact yq (q_move rfl)
                  apply dq 1 rfl
                  · exact yq (q_nilCheck rfl)
                  apply dq 2 rfl
                  · exact yq (qfa 0 rfl yU101 rfl rfl yS30)
                  apply dq 3 rfl
                  · exact yq (qld rfl yA30)
                  apply dq 4 rfl
                  · exact yq (q_move rfl)
                  apply dq 5 rfl
                  · exact yq (q_nilCheck rfl)
                  apply dq 6 rfl
                  · exact yq (qfa 11 rfl yU101 rfl rfl yS98)
                  apply dq 7 rfl
                  · exact yq (qlda rfl yA98 yS98)
                  refine d_eff1 [7, 6, 5, 4] [3, 2, 1, 0] 8 [(167, _)] gO ⟨rfl, trivial⟩ (by kernel_rfl) (by kernel_rfl) fun Ex => ?_
                  refine lc1 rfl rfl rfl (SOff_ok pa l (off : Nat)) ?_
                  refine l_nil ?_
                  apply n_d
                  · refine ⟨?_, ?_, ?_, ?_, trivial⟩
                    · apply ya rfl rfl; exact yq (qld rfl yA30)
                    · apply ya rfl rfl; exact yq (qfa 0 rfl yU101 rfl rfl yS30)
                    · apply ya rfl rfl; exact yq (q_nilCheck rfl)
                    · apply ya rfl rfl; exact yq (q_move rfl)
                  refine d_eff1 [3, 2, 1, 0] [] 9 [(163, _), (168, _)] gO ⟨rfl, rfl, trivial⟩ (by kernel_rfl) (by kernel_rfl) fun Ex => ?_
                  refine lc1 rfl rfl rfl (Load_okI pa s1 _ _ off 8 rfl rfl (by unfold wid; decide) (goodP.sub hP1.gh (by omega) (by omega) (by omega))) ?_
                  rw [hload]
                  refine l_nil ?_
                  apply n_d
                  · exact trivial
                  apply dq 10 rfl
                  · exact yq (q_move rfl)
                  apply dq 11 rfl
                  · exact yq (q_extractL rfl ga)
                  apply dq 12 rfl
                  · exact yq (q_extractL rfl ga)
                  refine d_eff1 [11, 10] [12] 13 [(170, _)] gO ⟨rfl, trivial⟩ (by kernel_rfl) (by kernel_rfl) fun Ex => ?_
                  refine asg rfl rfl <| l_nil ?_
                  apply n_d
                  · refine ⟨?_, trivial⟩
                    · apply ya rfl rfl; exact yq (q_extractL rfl ga)
                  refine d_eff1 [12] [] 14 [(171, _)] gO ⟨rfl, trivial⟩ (by kernel_rfl) (by kernel_rfl) fun Ex => ?_
                  refine asg rfl rfl <| l_nil ?_
                  apply n_d
                  · exact trivial
                  refine d_end (by kernel_rfl) ?_
                  refine nz <| mv rfl rfl <| lc1 rfl rfl rfl (num11_ok _) ?_
                  refine l_q rfl (qi rfl rfl (b_neq ·)) <| mv rfl rfl <| l_pt (t := 175) rfl (fun d1 => ?_) fun d1 => ?_
                  · exact absurd rfl d1
                  · refine l_on rfl rfl <| mv rfl rfl <| l_on rfl rfl <| lc1 rfl rfl rfl (num11_ok _) ?_
                    refine l_on rfl rfl <| l_q rfl (qi rfl rfl (b_neq ·)) <| l_q rfl (q_pk rfl rfl) <| mv rfl rfl <| l_pt (t := 180) rfl (fun d2 => ?_) fun d2 => ?_
                    · exact absurd rfl d2
                    · refine l_on rfl rfl <| l_q rfl (qlda rfl yA105 yS105) ?_
                      refine l_on rfl rfl <| mv rfl rfl <| l_on rfl rfl <| mv rfl rfl <| l_on rfl rfl <| mv rfl rfl <| l_on rfl rfl <| mv rfl rfl <| l_on rfl rfl ?_
                      apply l_q rfl
                      · apply q_buildS rfl yP105 yZ105
                        · apply FillR.one
                          · repeat (first | exact PlAt.here | apply PlAt.there)
                          · rfl
                          · exact sa
                          apply FillR.one
                          · repeat (first | exact PlAt.here | apply PlAt.there)
                          · rfl
                          · exact sa
                          apply FillR.one
                          · repeat (first | exact PlAt.here | apply PlAt.there)
                          · rfl
                          · exact sa
                          apply FillR.one
                          · repeat (first | exact PlAt.here | apply PlAt.there)
                          · rfl
                          · exact sa
                          exact FillR.nil
                      refine l_on rfl rfl <| l_q rfl (q_bin rfl rfl (g_flat · yG105) fun w => b_neqFlat w yU105 yH105 (by kernel_rfl) (by kernel_rfl)) ?_
                      refine l_q rfl (q_pk rfl rfl) <| mv rfl rfl <| l_pt (t := 189) rfl (fun d3 => ?_) fun d3 => ?_
                      · exact absurd rfl (of_decS d3)
                      · refine l_on rfl rfl <| mv rfl rfl <| l_on rfl rfl <| l_q rfl (qi rfl rfl (b_eql ·)) <| l_on rfl rfl <| mv rfl rfl <| l_on rfl rfl <| l_q rfl (qb rfl rfl (b_neqB · yU4)) <| l_q rfl (q_pk rfl rfl) <| mv rfl rfl <| l_pt (t := 195) rfl (fun d4 => ?_) fun d4 => ?_
                        · simp at d4
                        · refine l_on rfl rfl <| mv rfl rfl <| l_on rfl rfl <| l_q rfl (qi rfl rfl (b_neq ·)) <| l_on rfl rfl <| mv rfl rfl <| l_pt (t := 198) rfl (fun d5 => ?_) fun d5 => ?_
                          · refine l_on rfl rfl <| mv rfl rfl <| l_on rfl rfl <| l_q rfl (qi rfl rfl (b_neq ·)) <| l_on rfl rfl <| l_q rfl (q_pk rfl rfl) <| l_q rfl (q_pk rfl rfl) <| lc <| t_if rfl (fun d6 => ?_) fun d6 => ?_
                            · omega
                            · refine t_skip <| n_blk <| n_code <| t_region <| l_q rfl (qadd rfl rfl) ?_
                              refine mv rfl rfl <| l_nil ?_
                              apply n_again ((i + 1, s1, S1, ad1))
                              · exact ⟨Nat.succ_le_of_lt (by omega), hP1, hS1, hpb1, hkd1, had1, hL1⟩
                              · (dsimp only; omega)
                              · exact ⟨rfl, rfl, rfl, rfl, rfl, rfl, rfl, trivial⟩
                              · exact en
                          · refine l_off rfl rfl rfl rfl <| l_off rfl rfl rfl rfl <| l_on rfl rfl <| l_q rfl (q_pk rfl rfl) <| l_q rfl (q_pk rfl rfl) <| lc <| t_cond_f rfl <| t_skip <| n_blk <| n_code <| t_region <| l_q rfl (qadd rfl rfl) ?_
                            refine mv rfl rfl <| l_nil ?_
                            apply n_again ((i + 1, s1, S1, ad1))
                            · exact ⟨Nat.succ_le_of_lt (by omega), hP1, hS1, hpb1, hkd1, had1, hL1⟩
                            · (dsimp only; omega)
                            · exact ⟨rfl, rfl, rfl, rfl, rfl, rfl, rfl, trivial⟩
                            · exact en
            · refine sr <| l_q rfl (qi rfl rfl (b_eql ·)) <| asg rfl rfl <| lc <| t_if rfl (fun k3 => ?_) fun k3 => ?_
              · refine sr <| l_q rfl (qfa 1 rfl yU96 rfl rfl yS3) <| l_q rfl (qld rfl yA3) ?_
                refine asg rfl rfl <| lc <| t_seq <| t_draw mixed ?_
                apply dq 0 rfl
                · exact yq (q_move rfl)
                apply dq 1 rfl
                · exact yq (q_nilCheck rfl)
                apply dq 2 rfl
                · exact yq (qfa 11 rfl yU101 rfl rfl yS98)
                apply dq 3 rfl
                · exact yq (qlda rfl yA98 yS98)
                apply dq 4 rfl
                · exact yq (qfa 1 rfl yU96 rfl rfl yS3)
                apply dq 5 rfl
                · exact yq (qld rfl yA3)
                refine d_eff1 [3, 5, 2, 4, 1, 0] [] 6 [(104, _), (106, _)] gO ⟨rfl, rfl, trivial⟩ (by kernel_rfl) (by kernel_rfl) fun Ex => ?_
                refine lcf rfl rfl rfl (SSetNext_ok pa off s l S hP t.2 hw) ?_
                rintro v L' ⟨s1, rfl, rfl, hP1, hL1⟩
                refine l_nm ?_
                refine l_nil ?_
                apply n_d
                · exact trivial
                refine d_eff1 [] [] 7 [(107, _)] gO ⟨rfl, trivial⟩ (by kernel_rfl) (by kernel_rfl) fun Ex => ?_
                have hS1 := hS.head (S' := { S with next := t.2 }) rfl rfl
                generalize hE : ({ S with next := t.2 } : Sm) = S1 at hP1 hS1
                obtain ⟨ad1, rfl⟩ : ∃ ad1, ad1 = ad := ⟨_, rfl⟩
                have hkd1 : S1.kind = 1 ∨ S1.kind = 3 := by rw [← hE]; exact hkd
                have hpe : S1.pins = S.pins := by rw [← hE]
                have hpb1 : 0 ≤ S1.pins ∧ S1.pins ≤ 4611686018427387904 := by omega
                replace hL1 := hLy.trans hL1
                have had1 : ad1 ≤ i + 1 := by omega
                have hne : S1.next = t.2 := by rw [← hE]
                have hke : decide (S1.kind = 3) = decide (S.kind = 3) := by rw [← hE]
                have hce : S1.cells = S.cells := by rw [← hE]
                refine lc1 rfl rfl rfl (num11_ok _) ?_
                refine l_nil ?_
                apply n_d
                · exact trivial
                apply dq 8 rfl
                · exact yq (qi rfl rfl (b_neq ·))
                refine d_end (by kernel_rfl) ?_
                refine n_code <| t_if rfl (fun q3 => ?_) fun q3 => ?_
                · exact absurd rfl q3
                · refine t_skip <| n_blk <| nz <| asg rfl rfl <| lc <| t_seq <| sr <| asg rfl rfl <| lc <| t_block ?_
                  have hload : loadN s1.m off 8 = S1.kind := by rw [show off = off + 8 * 0 by omega, hP1.head 0 (by decide)]; show IntKind.u64.wrap S1.kind = S1.kind; rw [wrap_u64 (by omega)]
                  refine t_loop (fun k : Nat => k ≤ 8) (fun k => [(5, .pointer (some ⟨pb, 0, none⟩)), (8, .int .i64 S1.pins), (9, .int .i64 S1.next), (10, .bool (decide (S1.kind = 3))), (15, .int .i64 (cnt isFull S1.cells k : Nat)), (16, .int .i64 (k : Nat)), (33, .slice (some ⟨tb, to, none⟩) ts.length tcap), (34, .int .i64 (ts.length : Nat)), (35, .int .i64 (i : Nat))]) (fun _ => pt pb (.cells (bsc pa po l off vf vo sd vt S1.cells ad1).toArray 101 (0, 0)) :: pt po (.cells #[.map (some bm)] 191 (0, 0)) :: mapH (fun k : ByteArray => Value.string k) bm m :: G :: arenaH pa s1 :: Fr) (fun k => 8 - k) 0 (Nat.zero_le _) ⟨rfl, by first | rfl | (rw [hpe]; done) | (rw [hpe]; rfl), by first | rfl | (rw [hne]; done) | (rw [hne]; rfl), by first | rfl | (rw [hke]; done) | (rw [hke]; rfl), rfl, rfl, rfl, rfl, rfl, trivial⟩ (by rw [hce]; (exact en)) ?_
                  intro k hk
                  have hcl := cnt_le isFull S1.cells k
                  have hcs := cnt_succ isFull S1.cells k
                  refine t_seq <| sr <| mv rfl rfl <| l_q rfl (qi rfl rfl (b_lss ·)) <| lc <| t_if rfl (fun c0 => ?_) fun c0 => ?_
                  · skip
                    have hi8 : k < 8 := by omega
                    refine t_skip <| n_code <| t_seq <| t_block <| sr <| mv rfl rfl <| l_q rfl (q_nilCheck rfl) <| l_q rfl (qfa 11 rfl yU101 rfl rfl yS98) <| l_q rfl (qlda rfl yA98 yS98) ?_
                    refine mv rfl rfl <| lc1 rfl rfl rfl (SCell_ok pa off s1 l S1 hP1 k hi8) ?_
                    refine mv rfl rfl <| l_q rfl (q_extractL rfl ga) ?_
                    refine l_q rfl (q_extractL rfl ga) ?_
                    refine o_allocA rfl yZ54 fun b17 => sta rfl rfl rfl yS54 rfl rfl ?_
                    refine asg rfl rfl <| lc <| t_seq <| t_seq <| t_draw mixed ?_
                    apply dq 0 rfl
                    · exact yq (q_move rfl)
                    refine d_eff1 [0] [] 1 [(133, _)] gO ⟨rfl, trivial⟩ (by kernel_rfl) (by kernel_rfl) fun Ex => ?_
                    refine lc1 rfl rfl rfl (num11_ok _) ?_
                    refine l_nil ?_
                    apply n_d
                    · exact trivial
                    apply dq 2 rfl
                    · exact yq (qi rfl rfl (b_neq ·))
                    apply dq 3 rfl
                    · exact yq (q_move rfl)
                    refine d_pt (t := 136) rfl (fun c1 => ?_) fun c1 => ?_
                    · exact absurd rfl c1
                    · apply dq 4 rfl
                      · exact yq_on rfl rfl (qlda rfl yA54 yS54)
                      apply dq 5 rfl
                      · exact yq_on rfl rfl (q_move rfl)
                      apply dq 6 rfl
                      · exact yq_on rfl rfl (q_move rfl)
                      apply dq 7 rfl
                      · exact yq_on rfl rfl (q_nilCheck rfl)
                      apply dq 8 rfl
                      · exact yq_on rfl rfl (qfa 26 rfl yU101 rfl rfl yS99)
                      apply dq 9 rfl
                      · exact yq_on rfl rfl (q_indexAddrA rfl rfl yU99 yS54 (by omega))
                      apply dq 10 rfl
                      · apply yq_on rfl rfl
                        apply q_loadAgg rfl yA54 yS54
                        · exact tk
                        · exact bsc_in rfl hi8 (Nat.le_refl _)
                        · exact bsc_part rfl hi8
                      apply dq 11 rfl
                      · exact yq_on rfl rfl (q_bin rfl rfl (g_flat · yG54) fun w => b_neqFlat w yU54 yH54 (by kernel_rfl) (by kernel_rfl))
                      apply dq 12 rfl
                      · exact yq (q_pk rfl rfl)
                      refine d_end (by kernel_rfl) ?_
                      refine n_code <| t_if rfl (fun c2 => ?_) fun c2 => ?_
                      · simp at c2
                      · refine t_skip <| nz <| l_q rfl (qfa 0 rfl yU54 rfl rfl yS3) <| l_q rfl (qld rfl yA3) ?_
                        refine l_q rfl (qi rfl rfl (b_eql ·)) <| lc <| t_if rfl (fun c3 => ?_) fun c3 => ?_
                        · refine t_region <| mv rfl rfl <| l_q rfl (qadd rfl rfl) ?_
                          refine asg rfl rfl <| l_nil <| n_blk <| n_code <| t_region <| mv rfl rfl <| l_q rfl (qadd rfl rfl) ?_
                          refine asg rfl rfl <| l_nil ?_
                          rw [kind_full.1 c3, if_pos rfl] at hcs
                          apply n_again ((k + 1))
                          · exact (show k + 1 ≤ 8 by omega)
                          · omega
                          · exact ⟨rfl, rfl, rfl, rfl, by rw [hcs]; rfl, rfl, rfl, rfl, rfl, trivial⟩
                          · exact en
                        · refine t_skip <| n_blk <| n_code <| t_region <| mv rfl rfl <| l_q rfl (qadd rfl rfl) ?_
                          refine asg rfl rfl <| l_nil ?_
                          rw [if_neg (fun e => c3 (kind_full.2 e))] at hcs
                          apply n_again ((k + 1))
                          · exact (show k + 1 ≤ 8 by omega)
                          · omega
                          · exact ⟨rfl, rfl, rfl, rfl, by rw [hcs]; rfl, rfl, rfl, rfl, rfl, trivial⟩
                          · exact en
                  · obtain rfl : k = 8 := by omega
                    refine xt rfl <| nz <| mv rfl rfl <| l_q rfl (q_nilCheck rfl) <| l_q rfl (qfa 11 rfl yU101 rfl rfl yS98) <| l_q rfl (qlda rfl yA98 yS98) ?_
                    refine lc1 rfl rfl rfl (SStat_ok pa off s1 l S1 hP1) ?_
                    rw [hS1.used]
                    refine mv rfl rfl <| l_q rfl (q_extractL rfl ga) ?_
                    refine l_q rfl (q_extractL rfl ga) ?_
                    refine o_allocA rfl yZ105 fun b19 => sta rfl rfl rfl yS105 rfl rfl ?_
                    refine asg rfl rfl <| lc <| t_seq <| t_draw mixed ?_
                    apply dq 0 rfl
                    · exact yq (q_move rfl)
                    apply dq 1 rfl
                    · exact yq (q_nilCheck rfl)
                    apply dq 2 rfl
                    · exact yq (qfa 0 rfl yU101 rfl rfl yS30)
                    apply dq 3 rfl
                    · exact yq (qld rfl yA30)
                    apply dq 4 rfl
                    · exact yq (q_move rfl)
                    apply dq 5 rfl
                    · exact yq (q_nilCheck rfl)
                    apply dq 6 rfl
                    · exact yq (qfa 11 rfl yU101 rfl rfl yS98)
                    apply dq 7 rfl
                    · exact yq (qlda rfl yA98 yS98)
                    refine d_eff1 [7, 6, 5, 4] [3, 2, 1, 0] 8 [(167, _)] gO ⟨rfl, trivial⟩ (by kernel_rfl) (by kernel_rfl) fun Ex => ?_
                    refine lc1 rfl rfl rfl (SOff_ok pa l (off : Nat)) ?_
                    refine l_nil ?_
                    apply n_d
                    · refine ⟨?_, ?_, ?_, ?_, trivial⟩
                      · apply ya rfl rfl; exact yq (qld rfl yA30)
                      · apply ya rfl rfl; exact yq (qfa 0 rfl yU101 rfl rfl yS30)
                      · apply ya rfl rfl; exact yq (q_nilCheck rfl)
                      · apply ya rfl rfl; exact yq (q_move rfl)
                    refine d_eff1 [3, 2, 1, 0] [] 9 [(163, _), (168, _)] gO ⟨rfl, rfl, trivial⟩ (by kernel_rfl) (by kernel_rfl) fun Ex => ?_
                    refine lc1 rfl rfl rfl (Load_okI pa s1 _ _ off 8 rfl rfl (by unfold wid; decide) (goodP.sub hP1.gh (by omega) (by omega) (by omega))) ?_
                    rw [hload]
                    refine l_nil ?_
                    apply n_d
                    · exact trivial
                    apply dq 10 rfl
                    · exact yq (q_move rfl)
                    apply dq 11 rfl
                    · exact yq (q_extractL rfl ga)
                    apply dq 12 rfl
                    · exact yq (q_extractL rfl ga)
                    refine d_eff1 [11, 10] [12] 13 [(170, _)] gO ⟨rfl, trivial⟩ (by kernel_rfl) (by kernel_rfl) fun Ex => ?_
                    refine asg rfl rfl <| l_nil ?_
                    apply n_d
                    · refine ⟨?_, trivial⟩
                      · apply ya rfl rfl; exact yq (q_extractL rfl ga)
                    refine d_eff1 [12] [] 14 [(171, _)] gO ⟨rfl, trivial⟩ (by kernel_rfl) (by kernel_rfl) fun Ex => ?_
                    refine asg rfl rfl <| l_nil ?_
                    apply n_d
                    · exact trivial
                    refine d_end (by kernel_rfl) ?_
                    refine nz <| mv rfl rfl <| lc1 rfl rfl rfl (num11_ok _) ?_
                    refine l_q rfl (qi rfl rfl (b_neq ·)) <| mv rfl rfl <| l_pt (t := 175) rfl (fun d1 => ?_) fun d1 => ?_
                    · exact absurd rfl d1
                    · refine l_on rfl rfl <| mv rfl rfl <| l_on rfl rfl <| lc1 rfl rfl rfl (num11_ok _) ?_
                      refine l_on rfl rfl <| l_q rfl (qi rfl rfl (b_neq ·)) <| l_q rfl (q_pk rfl rfl) <| mv rfl rfl <| l_pt (t := 180) rfl (fun d2 => ?_) fun d2 => ?_
                      · exact absurd rfl d2
                      · refine l_on rfl rfl <| l_q rfl (qlda rfl yA105 yS105) ?_
                        refine l_on rfl rfl <| mv rfl rfl <| l_on rfl rfl <| mv rfl rfl <| l_on rfl rfl <| mv rfl rfl <| l_on rfl rfl <| mv rfl rfl <| l_on rfl rfl ?_
                        apply l_q rfl
                        · apply q_buildS rfl yP105 yZ105
                          · apply FillR.one
                            · repeat (first | exact PlAt.here | apply PlAt.there)
                            · rfl
                            · exact sa
                            apply FillR.one
                            · repeat (first | exact PlAt.here | apply PlAt.there)
                            · rfl
                            · exact sa
                            apply FillR.one
                            · repeat (first | exact PlAt.here | apply PlAt.there)
                            · rfl
                            · exact sa
                            apply FillR.one
                            · repeat (first | exact PlAt.here | apply PlAt.there)
                            · rfl
                            · exact sa
                            exact FillR.nil
                        refine l_on rfl rfl <| l_q rfl (q_bin rfl rfl (g_flat · yG105) fun w => b_neqFlat w yU105 yH105 (by kernel_rfl) (by kernel_rfl)) ?_
                        refine l_q rfl (q_pk rfl rfl) <| mv rfl rfl <| l_pt (t := 189) rfl (fun d3 => ?_) fun d3 => ?_
                        · exact absurd rfl (of_decS d3)
                        · refine l_on rfl rfl <| mv rfl rfl <| l_on rfl rfl <| l_q rfl (qi rfl rfl (b_eql ·)) <| l_on rfl rfl <| mv rfl rfl <| l_on rfl rfl <| l_q rfl (qb rfl rfl (b_neqB · yU4)) <| l_q rfl (q_pk rfl rfl) <| mv rfl rfl <| l_pt (t := 195) rfl (fun d4 => ?_) fun d4 => ?_
                          · simp at d4
                          · refine l_on rfl rfl <| mv rfl rfl <| l_on rfl rfl <| l_q rfl (qi rfl rfl (b_neq ·)) <| l_on rfl rfl <| mv rfl rfl <| l_pt (t := 198) rfl (fun d5 => ?_) fun d5 => ?_
                            · refine l_on rfl rfl <| mv rfl rfl <| l_on rfl rfl <| l_q rfl (qi rfl rfl (b_neq ·)) <| l_on rfl rfl <| l_q rfl (q_pk rfl rfl) <| l_q rfl (q_pk rfl rfl) <| lc <| t_if rfl (fun d6 => ?_) fun d6 => ?_
                              · omega
                              · refine t_skip <| n_blk <| n_code <| t_region <| l_q rfl (qadd rfl rfl) ?_
                                refine mv rfl rfl <| l_nil ?_
                                apply n_again ((i + 1, s1, S1, ad1))
                                · exact ⟨Nat.succ_le_of_lt (by omega), hP1, hS1, hpb1, hkd1, had1, hL1⟩
                                · (dsimp only; omega)
                                · exact ⟨rfl, rfl, rfl, rfl, rfl, rfl, rfl, trivial⟩
                                · exact en
                            · refine l_off rfl rfl rfl rfl <| l_off rfl rfl rfl rfl <| l_on rfl rfl <| l_q rfl (q_pk rfl rfl) <| l_q rfl (q_pk rfl rfl) <| lc <| t_cond_f rfl <| t_skip <| n_blk <| n_code <| t_region <| l_q rfl (qadd rfl rfl) ?_
                              refine mv rfl rfl <| l_nil ?_
                              apply n_again ((i + 1, s1, S1, ad1))
                              · exact ⟨Nat.succ_le_of_lt (by omega), hP1, hS1, hpb1, hkd1, had1, hL1⟩
                              · (dsimp only; omega)
                              · exact ⟨rfl, rfl, rfl, rfl, rfl, rfl, rfl, trivial⟩
                              · exact en
              · refine sr <| l_q rfl (qi rfl rfl (b_eql ·)) <| asg rfl rfl <| lc <| t_if rfl (fun k4 => ?_) fun k4 => ?_
                · refine sr <| mv rfl rfl <| l_q rfl (qfa 1 rfl yU96 rfl rfl yS3) <| l_q rfl (qld rfl yA3) ?_
                  refine l_q rfl (qfa 1 rfl yU96 rfl rfl yS3) <| l_q rfl (qld rfl yA3) ?_
                  apply l_q rfl
                  · apply q_buildS rfl yP103 yZ103
                    · apply FillR.one
                      · repeat (first | exact PlAt.here | apply PlAt.there)
                      · rfl
                      · exact sa
                      apply FillR.one
                      · repeat (first | exact PlAt.here | apply PlAt.there)
                      · rfl
                      · exact sa
                      apply FillR.one
                      · repeat (first | exact PlAt.here | apply PlAt.there)
                      · rfl
                      · exact sa
                      exact FillR.nil
                  refine lcf rfl rfl rfl (turn_ok pb pa po bm off l vf vo _ sd m G hGT hGO hm hsd hl S ad s hP hS (by omega) 1 t.2 t.2) ?_
                  rintro v L' ⟨s1, S1, ad1, rfl, rfl, hP1, hS1, had1, _, hL1⟩
                  refine l_nm ?_
                  refine l_q rfl (q_un rfl (u_not ·)) <| lc ?_
                  have hpe : S1.pins = S.pins := hS1.pn
                  have hne : S1.next = S.next := hS1.nx
                  have hke : decide (S1.kind = 3) = decide (S.kind = 3) := by rw [hS1.kd]
                  have hkd1 : S1.kind = 1 ∨ S1.kind = 3 := by rw [hS1.kd]; exact hkd
                  have hpb1 : 0 ≤ S1.pins ∧ S1.pins ≤ 4611686018427387904 := by omega
                  have hce : S1.cells = S1.cells := rfl
                  replace hL1 := hLy.trans hL1
                  replace had1 : ad1 ≤ i + 1 := by omega
                  replace hS1 := hS1.re
                  refine t_if rfl (fun q3 => ?_) fun q3 => ?_
                  · cases q3
                  · refine t_skip <| n_blk <| nz <| asg rfl rfl <| lc <| t_seq <| sr <| asg rfl rfl <| lc <| t_block ?_
                    have hload : loadN s1.m off 8 = S1.kind := by rw [show off = off + 8 * 0 by omega, hP1.head 0 (by decide)]; show IntKind.u64.wrap S1.kind = S1.kind; rw [wrap_u64 (by omega)]
                    refine t_loop (fun k : Nat => k ≤ 8) (fun k => [(5, .pointer (some ⟨pb, 0, none⟩)), (8, .int .i64 S1.pins), (9, .int .i64 S1.next), (10, .bool (decide (S1.kind = 3))), (15, .int .i64 (cnt isFull S1.cells k : Nat)), (16, .int .i64 (k : Nat)), (33, .slice (some ⟨tb, to, none⟩) ts.length tcap), (34, .int .i64 (ts.length : Nat)), (35, .int .i64 (i : Nat))]) (fun _ => pt pb (.cells (bsc pa po l off vf vo sd vt S1.cells ad1).toArray 101 (0, 0)) :: pt po (.cells #[.map (some bm)] 191 (0, 0)) :: mapH (fun k : ByteArray => Value.string k) bm m :: G :: arenaH pa s1 :: Fr) (fun k => 8 - k) 0 (Nat.zero_le _) ⟨rfl, by first | rfl | (rw [hpe]; done) | (rw [hpe]; rfl), by first | rfl | (rw [hne]; done) | (rw [hne]; rfl), by first | rfl | (rw [hke]; done) | (rw [hke]; rfl), rfl, rfl, rfl, rfl, rfl, trivial⟩ (by rw [hce]; (exact en)) ?_
                    intro k hk
                    have hcl := cnt_le isFull S1.cells k
                    have hcs := cnt_succ isFull S1.cells k
                    refine t_seq <| sr <| mv rfl rfl <| l_q rfl (qi rfl rfl (b_lss ·)) <| lc <| t_if rfl (fun c0 => ?_) fun c0 => ?_
                    · skip
                      have hi8 : k < 8 := by omega
                      refine t_skip <| n_code <| t_seq <| t_block <| sr <| mv rfl rfl <| l_q rfl (q_nilCheck rfl) <| l_q rfl (qfa 11 rfl yU101 rfl rfl yS98) <| l_q rfl (qlda rfl yA98 yS98) ?_
                      refine mv rfl rfl <| lc1 rfl rfl rfl (SCell_ok pa off s1 l S1 hP1 k hi8) ?_
                      refine mv rfl rfl <| l_q rfl (q_extractL rfl ga) ?_
                      refine l_q rfl (q_extractL rfl ga) ?_
                      refine o_allocA rfl yZ54 fun b17 => sta rfl rfl rfl yS54 rfl rfl ?_
                      refine asg rfl rfl <| lc <| t_seq <| t_seq <| t_draw mixed ?_
                      apply dq 0 rfl
                      · exact yq (q_move rfl)
                      refine d_eff1 [0] [] 1 [(133, _)] gO ⟨rfl, trivial⟩ (by kernel_rfl) (by kernel_rfl) fun Ex => ?_
                      refine lc1 rfl rfl rfl (num11_ok _) ?_
                      refine l_nil ?_
                      apply n_d
                      · exact trivial
                      apply dq 2 rfl
                      · exact yq (qi rfl rfl (b_neq ·))
                      apply dq 3 rfl
                      · exact yq (q_move rfl)
                      refine d_pt (t := 136) rfl (fun c1 => ?_) fun c1 => ?_
                      · exact absurd rfl c1
                      · apply dq 4 rfl
                        · exact yq_on rfl rfl (qlda rfl yA54 yS54)
                        apply dq 5 rfl
                        · exact yq_on rfl rfl (q_move rfl)
                        apply dq 6 rfl
                        · exact yq_on rfl rfl (q_move rfl)
                        apply dq 7 rfl
                        · exact yq_on rfl rfl (q_nilCheck rfl)
                        apply dq 8 rfl
                        · exact yq_on rfl rfl (qfa 26 rfl yU101 rfl rfl yS99)
                        apply dq 9 rfl
                        · exact yq_on rfl rfl (q_indexAddrA rfl rfl yU99 yS54 (by omega))
                        apply dq 10 rfl
                        · apply yq_on rfl rfl
                          apply q_loadAgg rfl yA54 yS54
                          · exact tk
                          · exact bsc_in rfl hi8 (Nat.le_refl _)
                          · exact bsc_part rfl hi8
                        apply dq 11 rfl
                        · exact yq_on rfl rfl (q_bin rfl rfl (g_flat · yG54) fun w => b_neqFlat w yU54 yH54 (by kernel_rfl) (by kernel_rfl))
                        apply dq 12 rfl
                        · exact yq (q_pk rfl rfl)
                        refine d_end (by kernel_rfl) ?_
                        refine n_code <| t_if rfl (fun c2 => ?_) fun c2 => ?_
                        · simp at c2
                        · refine t_skip <| nz <| l_q rfl (qfa 0 rfl yU54 rfl rfl yS3) <| l_q rfl (qld rfl yA3) ?_
                          refine l_q rfl (qi rfl rfl (b_eql ·)) <| lc <| t_if rfl (fun c3 => ?_) fun c3 => ?_
                          · refine t_region <| mv rfl rfl <| l_q rfl (qadd rfl rfl) ?_
                            refine asg rfl rfl <| l_nil <| n_blk <| n_code <| t_region <| mv rfl rfl <| l_q rfl (qadd rfl rfl) ?_
                            refine asg rfl rfl <| l_nil ?_
                            rw [kind_full.1 c3, if_pos rfl] at hcs
                            apply n_again ((k + 1))
                            · exact (show k + 1 ≤ 8 by omega)
                            · omega
                            · exact ⟨rfl, rfl, rfl, rfl, by rw [hcs]; rfl, rfl, rfl, rfl, rfl, trivial⟩
                            · exact en
                          · refine t_skip <| n_blk <| n_code <| t_region <| mv rfl rfl <| l_q rfl (qadd rfl rfl) ?_
                            refine asg rfl rfl <| l_nil ?_
                            rw [if_neg (fun e => c3 (kind_full.2 e))] at hcs
                            apply n_again ((k + 1))
                            · exact (show k + 1 ≤ 8 by omega)
                            · omega
                            · exact ⟨rfl, rfl, rfl, rfl, by rw [hcs]; rfl, rfl, rfl, rfl, rfl, trivial⟩
                            · exact en
                    · obtain rfl : k = 8 := by omega
                      refine xt rfl <| nz <| mv rfl rfl <| l_q rfl (q_nilCheck rfl) <| l_q rfl (qfa 11 rfl yU101 rfl rfl yS98) <| l_q rfl (qlda rfl yA98 yS98) ?_
                      refine lc1 rfl rfl rfl (SStat_ok pa off s1 l S1 hP1) ?_
                      rw [hS1.used]
                      refine mv rfl rfl <| l_q rfl (q_extractL rfl ga) ?_
                      refine l_q rfl (q_extractL rfl ga) ?_
                      refine o_allocA rfl yZ105 fun b19 => sta rfl rfl rfl yS105 rfl rfl ?_
                      refine asg rfl rfl <| lc <| t_seq <| t_draw mixed ?_
                      apply dq 0 rfl
                      · exact yq (q_move rfl)
                      apply dq 1 rfl
                      · exact yq (q_nilCheck rfl)
                      apply dq 2 rfl
                      · exact yq (qfa 0 rfl yU101 rfl rfl yS30)
                      apply dq 3 rfl
                      · exact yq (qld rfl yA30)
                      apply dq 4 rfl
                      · exact yq (q_move rfl)
                      apply dq 5 rfl
                      · exact yq (q_nilCheck rfl)
                      apply dq 6 rfl
                      · exact yq (qfa 11 rfl yU101 rfl rfl yS98)
                      apply dq 7 rfl
                      · exact yq (qlda rfl yA98 yS98)
                      refine d_eff1 [7, 6, 5, 4] [3, 2, 1, 0] 8 [(167, _)] gO ⟨rfl, trivial⟩ (by kernel_rfl) (by kernel_rfl) fun Ex => ?_
                      refine lc1 rfl rfl rfl (SOff_ok pa l (off : Nat)) ?_
                      refine l_nil ?_
                      apply n_d
                      · refine ⟨?_, ?_, ?_, ?_, trivial⟩
                        · apply ya rfl rfl; exact yq (qld rfl yA30)
                        · apply ya rfl rfl; exact yq (qfa 0 rfl yU101 rfl rfl yS30)
                        · apply ya rfl rfl; exact yq (q_nilCheck rfl)
                        · apply ya rfl rfl; exact yq (q_move rfl)
                      refine d_eff1 [3, 2, 1, 0] [] 9 [(163, _), (168, _)] gO ⟨rfl, rfl, trivial⟩ (by kernel_rfl) (by kernel_rfl) fun Ex => ?_
                      refine lc1 rfl rfl rfl (Load_okI pa s1 _ _ off 8 rfl rfl (by unfold wid; decide) (goodP.sub hP1.gh (by omega) (by omega) (by omega))) ?_
                      rw [hload]
                      refine l_nil ?_
                      apply n_d
                      · exact trivial
                      apply dq 10 rfl
                      · exact yq (q_move rfl)
                      apply dq 11 rfl
                      · exact yq (q_extractL rfl ga)
                      apply dq 12 rfl
                      · exact yq (q_extractL rfl ga)
                      refine d_eff1 [11, 10] [12] 13 [(170, _)] gO ⟨rfl, trivial⟩ (by kernel_rfl) (by kernel_rfl) fun Ex => ?_
                      refine asg rfl rfl <| l_nil ?_
                      apply n_d
                      · refine ⟨?_, trivial⟩
                        · apply ya rfl rfl; exact yq (q_extractL rfl ga)
                      refine d_eff1 [12] [] 14 [(171, _)] gO ⟨rfl, trivial⟩ (by kernel_rfl) (by kernel_rfl) fun Ex => ?_
                      refine asg rfl rfl <| l_nil ?_
                      apply n_d
                      · exact trivial
                      refine d_end (by kernel_rfl) ?_
                      refine nz <| mv rfl rfl <| lc1 rfl rfl rfl (num11_ok _) ?_
                      refine l_q rfl (qi rfl rfl (b_neq ·)) <| mv rfl rfl <| l_pt (t := 175) rfl (fun d1 => ?_) fun d1 => ?_
                      · exact absurd rfl d1
                      · refine l_on rfl rfl <| mv rfl rfl <| l_on rfl rfl <| lc1 rfl rfl rfl (num11_ok _) ?_
                        refine l_on rfl rfl <| l_q rfl (qi rfl rfl (b_neq ·)) <| l_q rfl (q_pk rfl rfl) <| mv rfl rfl <| l_pt (t := 180) rfl (fun d2 => ?_) fun d2 => ?_
                        · exact absurd rfl d2
                        · refine l_on rfl rfl <| l_q rfl (qlda rfl yA105 yS105) ?_
                          refine l_on rfl rfl <| mv rfl rfl <| l_on rfl rfl <| mv rfl rfl <| l_on rfl rfl <| mv rfl rfl <| l_on rfl rfl <| mv rfl rfl <| l_on rfl rfl ?_
                          apply l_q rfl
                          · apply q_buildS rfl yP105 yZ105
                            · apply FillR.one
                              · repeat (first | exact PlAt.here | apply PlAt.there)
                              · rfl
                              · exact sa
                              apply FillR.one
                              · repeat (first | exact PlAt.here | apply PlAt.there)
                              · rfl
                              · exact sa
                              apply FillR.one
                              · repeat (first | exact PlAt.here | apply PlAt.there)
                              · rfl
                              · exact sa
                              apply FillR.one
                              · repeat (first | exact PlAt.here | apply PlAt.there)
                              · rfl
                              · exact sa
                              exact FillR.nil
                          refine l_on rfl rfl <| l_q rfl (q_bin rfl rfl (g_flat · yG105) fun w => b_neqFlat w yU105 yH105 (by kernel_rfl) (by kernel_rfl)) ?_
                          refine l_q rfl (q_pk rfl rfl) <| mv rfl rfl <| l_pt (t := 189) rfl (fun d3 => ?_) fun d3 => ?_
                          · exact absurd rfl (of_decS d3)
                          · refine l_on rfl rfl <| mv rfl rfl <| l_on rfl rfl <| l_q rfl (qi rfl rfl (b_eql ·)) <| l_on rfl rfl <| mv rfl rfl <| l_on rfl rfl <| l_q rfl (qb rfl rfl (b_neqB · yU4)) <| l_q rfl (q_pk rfl rfl) <| mv rfl rfl <| l_pt (t := 195) rfl (fun d4 => ?_) fun d4 => ?_
                            · simp at d4
                            · refine l_on rfl rfl <| mv rfl rfl <| l_on rfl rfl <| l_q rfl (qi rfl rfl (b_neq ·)) <| l_on rfl rfl <| mv rfl rfl <| l_pt (t := 198) rfl (fun d5 => ?_) fun d5 => ?_
                              · refine l_on rfl rfl <| mv rfl rfl <| l_on rfl rfl <| l_q rfl (qi rfl rfl (b_neq ·)) <| l_on rfl rfl <| l_q rfl (q_pk rfl rfl) <| l_q rfl (q_pk rfl rfl) <| lc <| t_if rfl (fun d6 => ?_) fun d6 => ?_
                                · omega
                                · refine t_skip <| n_blk <| n_code <| t_region <| l_q rfl (qadd rfl rfl) ?_
                                  refine mv rfl rfl <| l_nil ?_
                                  apply n_again ((i + 1, s1, S1, ad1))
                                  · exact ⟨Nat.succ_le_of_lt (by omega), hP1, hS1, hpb1, hkd1, had1, hL1⟩
                                  · (dsimp only; omega)
                                  · exact ⟨rfl, rfl, rfl, rfl, rfl, rfl, rfl, trivial⟩
                                  · exact en
                              · refine l_off rfl rfl rfl rfl <| l_off rfl rfl rfl rfl <| l_on rfl rfl <| l_q rfl (q_pk rfl rfl) <| l_q rfl (q_pk rfl rfl) <| lc <| t_cond_f rfl <| t_skip <| n_blk <| n_code <| t_region <| l_q rfl (qadd rfl rfl) ?_
                                refine mv rfl rfl <| l_nil ?_
                                apply n_again ((i + 1, s1, S1, ad1))
                                · exact ⟨Nat.succ_le_of_lt (by omega), hP1, hS1, hpb1, hkd1, had1, hL1⟩
                                · (dsimp only; omega)
                                · exact ⟨rfl, rfl, rfl, rfl, rfl, rfl, rfl, trivial⟩
                                · exact en
                · refine t_skip <| n_blk <| nz <| asg rfl rfl <| lc <| t_seq <| sr <| asg rfl rfl <| lc <| t_block ?_
                  obtain ⟨s1, rfl⟩ : ∃ s1, s1 = s := ⟨_, rfl⟩
                  obtain ⟨S1, rfl⟩ : ∃ S1, S1 = S := ⟨_, rfl⟩
                  obtain ⟨ad1, rfl⟩ : ∃ ad1, ad1 = ad := ⟨_, rfl⟩
                  have hP1 := hP
                  have hS1 := hS
                  have hkd1 := hkd
                  have hpb1 := hpb
                  have hL1 := hLy
                  have had1 : ad1 ≤ i + 1 := by omega
                  have hpe : S1.pins = S1.pins := rfl
                  have hne : S1.next = S1.next := rfl
                  have hke : decide (S1.kind = 3) = decide (S1.kind = 3) := rfl
                  have hce : S1.cells = S1.cells := rfl
                  have hload : loadN s1.m off 8 = S1.kind := by rw [show off = off + 8 * 0 by omega, hP1.head 0 (by decide)]; show IntKind.u64.wrap S1.kind = S1.kind; rw [wrap_u64 (by omega)]
                  refine t_loop (fun k : Nat => k ≤ 8) (fun k => [(5, .pointer (some ⟨pb, 0, none⟩)), (8, .int .i64 S1.pins), (9, .int .i64 S1.next), (10, .bool (decide (S1.kind = 3))), (15, .int .i64 (cnt isFull S1.cells k : Nat)), (16, .int .i64 (k : Nat)), (33, .slice (some ⟨tb, to, none⟩) ts.length tcap), (34, .int .i64 (ts.length : Nat)), (35, .int .i64 (i : Nat))]) (fun _ => pt pb (.cells (bsc pa po l off vf vo sd vt S1.cells ad1).toArray 101 (0, 0)) :: pt po (.cells #[.map (some bm)] 191 (0, 0)) :: mapH (fun k : ByteArray => Value.string k) bm m :: G :: arenaH pa s1 :: Fr) (fun k => 8 - k) 0 (Nat.zero_le _) ⟨rfl, by first | rfl | (rw [hpe]; done) | (rw [hpe]; rfl), by first | rfl | (rw [hne]; done) | (rw [hne]; rfl), by first | rfl | (rw [hke]; done) | (rw [hke]; rfl), rfl, rfl, rfl, rfl, rfl, trivial⟩ (by rw [hce]; (exact en)) ?_
                  intro k hk
                  have hcl := cnt_le isFull S1.cells k
                  have hcs := cnt_succ isFull S1.cells k
                  refine t_seq <| sr <| mv rfl rfl <| l_q rfl (qi rfl rfl (b_lss ·)) <| lc <| t_if rfl (fun c0 => ?_) fun c0 => ?_
                  · skip
                    have hi8 : k < 8 := by omega
                    refine t_skip <| n_code <| t_seq <| t_block <| sr <| mv rfl rfl <| l_q rfl (q_nilCheck rfl) <| l_q rfl (qfa 11 rfl yU101 rfl rfl yS98) <| l_q rfl (qlda rfl yA98 yS98) ?_
                    refine mv rfl rfl <| lc1 rfl rfl rfl (SCell_ok pa off s1 l S1 hP1 k hi8) ?_
                    refine mv rfl rfl <| l_q rfl (q_extractL rfl ga) ?_
                    refine l_q rfl (q_extractL rfl ga) ?_
                    refine o_allocA rfl yZ54 fun b17 => sta rfl rfl rfl yS54 rfl rfl ?_
                    refine asg rfl rfl <| lc <| t_seq <| t_seq <| t_draw mixed ?_
                    apply dq 0 rfl
                    · exact yq (q_move rfl)
                    refine d_eff1 [0] [] 1 [(133, _)] gO ⟨rfl, trivial⟩ (by kernel_rfl) (by kernel_rfl) fun Ex => ?_
                    refine lc1 rfl rfl rfl (num11_ok _) ?_
                    refine l_nil ?_
                    apply n_d
                    · exact trivial
                    apply dq 2 rfl
                    · exact yq (qi rfl rfl (b_neq ·))
                    apply dq 3 rfl
                    · exact yq (q_move rfl)
                    refine d_pt (t := 136) rfl (fun c1 => ?_) fun c1 => ?_
                    · exact absurd rfl c1
                    · apply dq 4 rfl
                      · exact yq_on rfl rfl (qlda rfl yA54 yS54)
                      apply dq 5 rfl
                      · exact yq_on rfl rfl (q_move rfl)
                      apply dq 6 rfl
                      · exact yq_on rfl rfl (q_move rfl)
                      apply dq 7 rfl
                      · exact yq_on rfl rfl (q_nilCheck rfl)
                      apply dq 8 rfl
                      · exact yq_on rfl rfl (qfa 26 rfl yU101 rfl rfl yS99)
                      apply dq 9 rfl
                      · exact yq_on rfl rfl (q_indexAddrA rfl rfl yU99 yS54 (by omega))
                      apply dq 10 rfl
                      · apply yq_on rfl rfl
                        apply q_loadAgg rfl yA54 yS54
                        · exact tk
                        · exact bsc_in rfl hi8 (Nat.le_refl _)
                        · exact bsc_part rfl hi8
                      apply dq 11 rfl
                      · exact yq_on rfl rfl (q_bin rfl rfl (g_flat · yG54) fun w => b_neqFlat w yU54 yH54 (by kernel_rfl) (by kernel_rfl))
                      apply dq 12 rfl
                      · exact yq (q_pk rfl rfl)
                      refine d_end (by kernel_rfl) ?_
                      refine n_code <| t_if rfl (fun c2 => ?_) fun c2 => ?_
                      · simp at c2
                      · refine t_skip <| nz <| l_q rfl (qfa 0 rfl yU54 rfl rfl yS3) <| l_q rfl (qld rfl yA3) ?_
                        refine l_q rfl (qi rfl rfl (b_eql ·)) <| lc <| t_if rfl (fun c3 => ?_) fun c3 => ?_
                        · refine t_region <| mv rfl rfl <| l_q rfl (qadd rfl rfl) ?_
                          refine asg rfl rfl <| l_nil <| n_blk <| n_code <| t_region <| mv rfl rfl <| l_q rfl (qadd rfl rfl) ?_
                          refine asg rfl rfl <| l_nil ?_
                          rw [kind_full.1 c3, if_pos rfl] at hcs
                          apply n_again ((k + 1))
                          · exact (show k + 1 ≤ 8 by omega)
                          · omega
                          · exact ⟨rfl, rfl, rfl, rfl, by rw [hcs]; rfl, rfl, rfl, rfl, rfl, trivial⟩
                          · exact en
                        · refine t_skip <| n_blk <| n_code <| t_region <| mv rfl rfl <| l_q rfl (qadd rfl rfl) ?_
                          refine asg rfl rfl <| l_nil ?_
                          rw [if_neg (fun e => c3 (kind_full.2 e))] at hcs
                          apply n_again ((k + 1))
                          · exact (show k + 1 ≤ 8 by omega)
                          · omega
                          · exact ⟨rfl, rfl, rfl, rfl, by rw [hcs]; rfl, rfl, rfl, rfl, rfl, trivial⟩
                          · exact en
                  · obtain rfl : k = 8 := by omega
                    refine xt rfl <| nz <| mv rfl rfl <| l_q rfl (q_nilCheck rfl) <| l_q rfl (qfa 11 rfl yU101 rfl rfl yS98) <| l_q rfl (qlda rfl yA98 yS98) ?_
                    refine lc1 rfl rfl rfl (SStat_ok pa off s1 l S1 hP1) ?_
                    rw [hS1.used]
                    refine mv rfl rfl <| l_q rfl (q_extractL rfl ga) ?_
                    refine l_q rfl (q_extractL rfl ga) ?_
                    refine o_allocA rfl yZ105 fun b19 => sta rfl rfl rfl yS105 rfl rfl ?_
                    refine asg rfl rfl <| lc <| t_seq <| t_draw mixed ?_
                    apply dq 0 rfl
                    · exact yq (q_move rfl)
                    apply dq 1 rfl
                    · exact yq (q_nilCheck rfl)
                    apply dq 2 rfl
                    · exact yq (qfa 0 rfl yU101 rfl rfl yS30)
                    apply dq 3 rfl
                    · exact yq (qld rfl yA30)
                    apply dq 4 rfl
                    · exact yq (q_move rfl)
                    apply dq 5 rfl
                    · exact yq (q_nilCheck rfl)
                    apply dq 6 rfl
                    · exact yq (qfa 11 rfl yU101 rfl rfl yS98)
                    apply dq 7 rfl
                    · exact yq (qlda rfl yA98 yS98)
                    refine d_eff1 [7, 6, 5, 4] [3, 2, 1, 0] 8 [(167, _)] gO ⟨rfl, trivial⟩ (by kernel_rfl) (by kernel_rfl) fun Ex => ?_
                    refine lc1 rfl rfl rfl (SOff_ok pa l (off : Nat)) ?_
                    refine l_nil ?_
                    apply n_d
                    · refine ⟨?_, ?_, ?_, ?_, trivial⟩
                      · apply ya rfl rfl; exact yq (qld rfl yA30)
                      · apply ya rfl rfl; exact yq (qfa 0 rfl yU101 rfl rfl yS30)
                      · apply ya rfl rfl; exact yq (q_nilCheck rfl)
                      · apply ya rfl rfl; exact yq (q_move rfl)
                    refine d_eff1 [3, 2, 1, 0] [] 9 [(163, _), (168, _)] gO ⟨rfl, rfl, trivial⟩ (by kernel_rfl) (by kernel_rfl) fun Ex => ?_
                    refine lc1 rfl rfl rfl (Load_okI pa s1 _ _ off 8 rfl rfl (by unfold wid; decide) (goodP.sub hP1.gh (by omega) (by omega) (by omega))) ?_
                    rw [hload]
                    refine l_nil ?_
                    apply n_d
                    · exact trivial
                    apply dq 10 rfl
                    · exact yq (q_move rfl)
                    apply dq 11 rfl
                    · exact yq (q_extractL rfl ga)
                    apply dq 12 rfl
                    · exact yq (q_extractL rfl ga)
                    refine d_eff1 [11, 10] [12] 13 [(170, _)] gO ⟨rfl, trivial⟩ (by kernel_rfl) (by kernel_rfl) fun Ex => ?_
                    refine asg rfl rfl <| l_nil ?_
                    apply n_d
                    · refine ⟨?_, trivial⟩
                      · apply ya rfl rfl; exact yq (q_extractL rfl ga)
                    refine d_eff1 [12] [] 14 [(171, _)] gO ⟨rfl, trivial⟩ (by kernel_rfl) (by kernel_rfl) fun Ex => ?_
                    refine asg rfl rfl <| l_nil ?_
                    apply n_d
                    · exact trivial
                    refine d_end (by kernel_rfl) ?_
                    refine nz <| mv rfl rfl <| lc1 rfl rfl rfl (num11_ok _) ?_
                    refine l_q rfl (qi rfl rfl (b_neq ·)) <| mv rfl rfl <| l_pt (t := 175) rfl (fun d1 => ?_) fun d1 => ?_
                    · exact absurd rfl d1
                    · refine l_on rfl rfl <| mv rfl rfl <| l_on rfl rfl <| lc1 rfl rfl rfl (num11_ok _) ?_
                      refine l_on rfl rfl <| l_q rfl (qi rfl rfl (b_neq ·)) <| l_q rfl (q_pk rfl rfl) <| mv rfl rfl <| l_pt (t := 180) rfl (fun d2 => ?_) fun d2 => ?_
                      · exact absurd rfl d2
                      · refine l_on rfl rfl <| l_q rfl (qlda rfl yA105 yS105) ?_
                        refine l_on rfl rfl <| mv rfl rfl <| l_on rfl rfl <| mv rfl rfl <| l_on rfl rfl <| mv rfl rfl <| l_on rfl rfl <| mv rfl rfl <| l_on rfl rfl ?_
                        apply l_q rfl
                        · apply q_buildS rfl yP105 yZ105
                          · apply FillR.one
                            · repeat (first | exact PlAt.here | apply PlAt.there)
                            · rfl
                            · exact sa
                            apply FillR.one
                            · repeat (first | exact PlAt.here | apply PlAt.there)
                            · rfl
                            · exact sa
                            apply FillR.one
                            · repeat (first | exact PlAt.here | apply PlAt.there)
                            · rfl
                            · exact sa
                            apply FillR.one
                            · repeat (first | exact PlAt.here | apply PlAt.there)
                            · rfl
                            · exact sa
                            exact FillR.nil
                        refine l_on rfl rfl <| l_q rfl (q_bin rfl rfl (g_flat · yG105) fun w => b_neqFlat w yU105 yH105 (by kernel_rfl) (by kernel_rfl)) ?_
                        refine l_q rfl (q_pk rfl rfl) <| mv rfl rfl <| l_pt (t := 189) rfl (fun d3 => ?_) fun d3 => ?_
                        · exact absurd rfl (of_decS d3)
                        · refine l_on rfl rfl <| mv rfl rfl <| l_on rfl rfl <| l_q rfl (qi rfl rfl (b_eql ·)) <| l_on rfl rfl <| mv rfl rfl <| l_on rfl rfl <| l_q rfl (qb rfl rfl (b_neqB · yU4)) <| l_q rfl (q_pk rfl rfl) <| mv rfl rfl <| l_pt (t := 195) rfl (fun d4 => ?_) fun d4 => ?_
                          · simp at d4
                          · refine l_on rfl rfl <| mv rfl rfl <| l_on rfl rfl <| l_q rfl (qi rfl rfl (b_neq ·)) <| l_on rfl rfl <| mv rfl rfl <| l_pt (t := 198) rfl (fun d5 => ?_) fun d5 => ?_
                            · refine l_on rfl rfl <| mv rfl rfl <| l_on rfl rfl <| l_q rfl (qi rfl rfl (b_neq ·)) <| l_on rfl rfl <| l_q rfl (q_pk rfl rfl) <| l_q rfl (q_pk rfl rfl) <| lc <| t_if rfl (fun d6 => ?_) fun d6 => ?_
                              · omega
                              · refine t_skip <| n_blk <| n_code <| t_region <| l_q rfl (qadd rfl rfl) ?_
                                refine mv rfl rfl <| l_nil ?_
                                apply n_again ((i + 1, s1, S1, ad1))
                                · exact ⟨Nat.succ_le_of_lt (by omega), hP1, hS1, hpb1, hkd1, had1, hL1⟩
                                · (dsimp only; omega)
                                · exact ⟨rfl, rfl, rfl, rfl, rfl, rfl, rfl, trivial⟩
                                · exact en
                            · refine l_off rfl rfl rfl rfl <| l_off rfl rfl rfl rfl <| l_on rfl rfl <| l_q rfl (q_pk rfl rfl) <| l_q rfl (q_pk rfl rfl) <| lc <| t_cond_f rfl <| t_skip <| n_blk <| n_code <| t_region <| l_q rfl (qadd rfl rfl) ?_
                              refine mv rfl rfl <| l_nil ?_
                              apply n_again ((i + 1, s1, S1, ad1))
                              · exact ⟨Nat.succ_le_of_lt (by omega), hP1, hS1, hpb1, hkd1, had1, hL1⟩
                              · (dsimp only; omega)
                              · exact ⟨rfl, rfl, rfl, rfl, rfl, rfl, rfl, trivial⟩
                              · exact en
        · skip
          refine t_pure (φ := s.ok) (fun w hw => arena_ok (pa := pa) hw tk) fun hok => ?_
          refine xt rfl <| nz <| mv rfl rfl ?_
          refine lc1 rfl rfl rfl (ended_ok pb pa po off l vf vo vt sd S ad s hP ⟨hok, hLy.all.trans hOn.all, fun o => by rw [hLy.dead]; exact hOn.dead o⟩) ?_
          exact asg rfl rfl <| lc <| rt <| fr1 rfl ([G]) (.tmp rfl) ⟨rfl, rfl⟩
end Go.Proofs.YtgijnebgchkenaaGreatDoor.BenchS
