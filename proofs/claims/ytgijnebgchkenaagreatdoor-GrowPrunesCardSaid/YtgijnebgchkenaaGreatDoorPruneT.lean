import Derived.Test.YtgijnebgchkenaaGreatDoorTableN
import Derived.Test.YtgijnebgchkenaaGreatDoorPruneB
/- Contracts of package table: Group, AddLeft. -/
set_option linter.unusedVariables false
set_option linter.unusedSimpArgs false
set_option maxRecDepth 100000
namespace Go.Proofs.YtgijnebgchkenaaGreatDoor.Table
open Go.RowKit Go.Proofs Go.Proofs.YtgijnebgchkenaaGreatDoor.Eng Go.Proofs.YtgijnebgchkenaaGreatDoor.Ty Go.Proofs.YtgijnebgchkenaaGreatDoor.Bits Go.Proofs.YtgijnebgchkenaaGreatDoor.Mem Go.Proofs.YtgijnebgchkenaaGreatDoor.Search Go.Proofs.YtgijnebgchkenaaGreatDoor.Arena Go.Proofs.YtgijnebgchkenaaGreatDoor.CtrlB Go.Proofs.YtgijnebgchkenaaGreatDoor.Ctrl Go.Proofs.YtgijnebgchkenaaGreatDoor.Layout Go.Proofs.YtgijnebgchkenaaGreatDoor.GroupB Go.Proofs.YtgijnebgchkenaaGreatDoor.Group Go.Proofs.YtgijnebgchkenaaGreatDoor.TableB Go.Proofs.YtgijnebgchkenaaGreatDoor.TableI

/-- A group written. -/
theorem TabP.grp {s : ArS} {off go : Nat} {l : Lay} {n e : Nat} {T : Tb} (h : TabP s off go l n e T) {g : Nat} (hg : g < n) {cs : Nat → Cell} (hc : ∀ i, i < 8 → (cs i).ok l) :
    TabP (s.put (go + g * gN l) (gN l) (encG l cs)) off go l n e { T with cells := fun j => if j / 8 = g then cs (j % 8) else T.cells j } ∧ SameBut s (s.put (go + g * gN l) (gN l) (encG l cs)) off go (n * gN l) := by
  obtain ⟨h1, h2, h3, h4⟩ := h.grpAt hg
  refine ⟨⟨h.hl, h.he, h.hn, ?_, h.gh, h.gg, h.hr, h.dj⟩, ⟨rfl, rfl, fun a _ h6 => by rw [ArS.put_m, lay_out (by omega)]⟩⟩
  exact TAt.grp h.hT h.dj hg (T' := { T with cells := fun j => if j / 8 = g then cs (j % 8) else T.cells j }) hc (fun k _ => by unfold headV; rfl) (fun j => rfl) (layN h.hl)
theorem cnt_more (p : Cell → Bool) (cells : Nat → Cell) (a : Nat) : ∀ d, cnt p cells (a + d) = cnt p cells a + ((List.range d).filter fun r => p (cells (a + r))).length
  | 0 => by simp
  | d + 1 => by
    rw [← Nat.add_assoc, cnt_succ, cnt_more p cells a d, List.range_succ, List.filter_append, List.length_append, List.filter_cons]
    split <;> simp [*] <;> omega
theorem emp_slots (cells : Nat → Cell) (i : Nat) : cnt isEmp cells (8 * (i + 1)) = cnt isEmp cells (8 * i) + (slotsF (empS (grpC cells i))).length := by
  rw [show 8 * (i + 1) = 8 * i + 8 by omega, cnt_more]
  congr 2
theorem cnt_three (cells : Nat → Cell) : ∀ N, cnt isFull cells N + cnt isDel cells N + cnt isEmp cells N = N
  | 0 => rfl
  | N + 1 => by
    have ih := cnt_three cells N
    rw [cnt_succ, cnt_succ, cnt_succ]
    cases cells N <;> simp [isFull, isDel, isEmp] <;> omega
section
variable (G : HP) (hG : TabOk G) (pa off go n e : Nat) (s : ArS) (l : Lay) (T : Tb) (hP : TabP s off go l n e T)
include hP
theorem TGroup_ok (k : Nat) (hk : k < n) : FnOk Tryz.prog 22 #[.agg #[.pointer (some ⟨pa, 0, none⟩), .int .i64 l.key, .int .i64 l.elem, .int .i64 l.ka, .int .i64 l.ea, .int .i64 l.cap, .int .i64 l.eo, .int .i64 l.bo, .int .i64 l.slot, .int .i64 l.group, .int .i64 (off : Nat)], .int .i64 (k : Nat)] [arenaH pa s] (fun v L => v = .tuple #[.agg #[.pointer (some ⟨pa, 0, none⟩), .int .i64 l.key, .int .i64 l.elem, .int .i64 l.ka, .int .i64 l.ea, .int .i64 l.cap, .int .i64 l.eo, .int .i64 l.bo, .int .i64 l.slot, .int .i64 l.group, .int .i64 ((go + k * gN l : Nat) : Int)], .int .i64 0] ∧ L = [arenaH pa s]) := by
  have hn8 := hP.n0
  obtain ⟨h1, _, _, _⟩ := hP.grpAt hk
  refine fn_intro en22 Tryz.func22 rfl rfl rfl fun Fr w0 => t_nm ?_
  refine t_pure (φ := s.ok) (fun w hw => arena_ok hw .here) fun hok0 => ?_
  have hge := goodP.end_le hok0 h1
  have hst0 := hok0.stop_eq
  have hbd := Lay.bnd hP.hl
  refine sr <| o_boxA rfl rfl fun b2 => o_allocA rfl yZ63 fun b4 => asg rfl rfl <| lz <| l_q rfl (qlda rfl yA34 yS34) ?_
  refine lc1 rfl rfl rfl (StatP_ok pa off go n e s l T hP) ?_
  refine mv rfl rfl <| l_q rfl (q_extractL rfl ga) ?_
  refine l_q rfl (q_extractL rfl ga) ?_
  refine o_allocA rfl yZ47 fun b6 => sta rfl rfl rfl yS47 rfl rfl ?_
  refine asg rfl rfl <| lc <| t_seq <| sr <| mv rfl rfl <| l_q rfl (qi rfl rfl (b_neq ·)) <| lc <| t_if rfl (fun z => ?_) fun z => ?_
  · exact absurd rfl z
  · refine t_skip <| n_code <| t_seq <| sr <| mv rfl rfl <| l_q rfl (qi rfl rfl (b_lss ·)) <| mv rfl rfl <| l_pt (t := 19) rfl (fun z1 => ?_) fun z1 => ?_
    · omega
    · refine l_on rfl rfl <| mv rfl rfl <| l_on rfl rfl <| l_q rfl (qfa 1 rfl yU47 rfl rfl yS3) <| l_on rfl rfl <| l_q rfl (qld rfl yA3) ?_
      refine l_on rfl rfl <| l_q rfl (qquo rfl rfl) ?_
      refine l_on rfl rfl <| l_q rfl (qi rfl rfl (b_geq ·)) <| l_q rfl (q_pk rfl rfl) <| lc <| t_if rfl (fun z2 => ?_) fun z2 => ?_
      · omega
      · refine t_skip <| nz <| l_q rfl (qlda rfl yA34 yS34) ?_
        refine l_q rfl (qlda rfl yA47 yS47) ?_
        refine mv rfl rfl <| lc1 rfl rfl rfl (group_ok pa off go k n l hP.hl T _ rfl (by omega)) ?_
        refine sta rfl rfl rfl yS63 rfl rfl ?_
        refine asg rfl rfl <| lc <| rt ?_
        apply f_ret (.inl rfl) ([arenaH pa s])
        · apply res2 rfl
          · apply Rv.agg rfl
            · exact tk
            · exact run_loadAll yA63 yS63 rfl
          · exact .tmp rfl
        · exact ⟨rfl, rfl⟩
        · exact en
theorem AddLeft_ok (v : Int) (h0 : 0 ≤ v) (h1 : v ≤ 7 * (n : Int) - ((cnt isFull T.cells (8 * n) : Nat) : Int) - ((cnt isDel T.cells (8 * n) : Nat) : Int) - T.left) (hl : 0 ≤ T.left ∧ T.left ≤ 1099511627776) :
    FnOk Tryz.prog 24 #[.agg #[.pointer (some ⟨pa, 0, none⟩), .int .i64 l.key, .int .i64 l.elem, .int .i64 l.ka, .int .i64 l.ea, .int .i64 l.cap, .int .i64 l.eo, .int .i64 l.bo, .int .i64 l.slot, .int .i64 l.group, .int .i64 (off : Nat)], .int .i64 v] [arenaH pa s] (fun r L => ∃ s', r = .int .i64 0 ∧ L = [arenaH pa s'] ∧ TabP s' off go l n e { T with left := T.left + v } ∧ SameBut s s' off go (n * gN l)) := by
  have hn8 := hP.n0
  have hw := hP.word (T' := { T with left := T.left + v }) (k := 5) (v := T.left + v) (by decide) (by omega) rfl (head_ne (.inr rfl) (.inr rfl) (.inr rfl) (.inr rfl) (.inl rfl) (.inr rfl)) rfl
  have h3 := cnt_three T.cells (8 * n)
  have hneg : IntKind.i64.wrap (0 - T.left) = -T.left := by rw [wrap_i64 (by omega)]; omega
  refine fn_intro en24 Tryz.func24 rfl rfl rfl fun Fr w0 => t_nm ?_
  refine t_pure (φ := s.ok) (fun w hw => arena_ok hw .here) fun hok0 => ?_
  have hst0 := hok0.stop_eq
  refine sr <| o_boxA rfl rfl fun b2 => asg rfl rfl <| lz <| l_q rfl (qlda rfl yA34 yS34) ?_
  refine lc1 rfl rfl rfl (StatP_ok pa off go n e s l T hP) ?_
  refine mv rfl rfl <| l_q rfl (q_extractL rfl ga) ?_
  refine l_q rfl (q_extractL rfl ga) ?_
  refine o_allocA rfl yZ47 fun b5 => sta rfl rfl rfl yS47 rfl rfl ?_
  refine asg rfl rfl <| lc <| t_seq <| sr <| mv rfl rfl <| l_q rfl (qi rfl rfl (b_neq ·)) <| lc <| t_if rfl (fun z => ?_) fun z => ?_
  · exact absurd rfl z
  · refine t_skip <| nz <| asg rfl rfl <| lc <| t_seq <| sr <| l_q rfl (qfa 1 rfl yU47 rfl rfl yS3) <| l_q rfl (qld rfl yA3) ?_
    refine l_q rfl (qquo rfl rfl) ?_
    refine mv rfl rfl <| lc <| t_block ?_
    rw [show (8 * (n : Int)) / 8 = ((n : Nat) : Int) by omega]
    refine t_loop (fun i : Nat => i ≤ n) (fun i => [(1, .int .i64 v), (2, .pointer (some ⟨b2, 0, none⟩)), (5, .pointer (some ⟨b5, 0, none⟩)), (7, .int .i64 (8 * (i : Int) - ((cnt isEmp T.cells (8 * i) : Nat) : Int))), (21, .int .i64 (n : Nat)), (22, .int .i64 (i : Nat))]) (fun _ => pt b5 (.cells #[.int .i64 T.used, .int .i64 (8 * (n : Int)), .int .i64 T.left, .int .i64 T.depth, .int .i64 T.pins, .int .i64 T.next, .bool (decide (T.kind = 4)), .int .i64 (go : Nat)] 47 (0, 0)) :: pt b2 (.cells #[.pointer (some ⟨pa, 0, none⟩), .int .i64 l.key, .int .i64 l.elem, .int .i64 l.ka, .int .i64 l.ea, .int .i64 l.cap, .int .i64 l.eo, .int .i64 l.bo, .int .i64 l.slot, .int .i64 l.group, .int .i64 (off : Nat)] 34 (0, 0)) :: arenaH pa s :: Fr) (fun i => n - i) 0 (Nat.zero_le _) ⟨rfl, rfl, rfl, rfl, rfl, rfl, trivial⟩ (by (exact en)) ?_
    intro i hi
    refine sr <| l_q rfl (qi rfl rfl (b_lss ·)) <| lc <| t_seq <| t_if rfl (fun q => ?_) fun q => ?_
    · skip
      obtain ⟨g1, g2, g3, g4⟩ := hP.grpAt (g := i) (by omega)
      have hge := goodP.end_le hok0 g1
      have hbd := Lay.bnd hP.hl
      have hes := emp_slots T.cells i
      have hc1 := cnt_le isEmp T.cells (8 * i)
      have hs8 : (slotsF (empS (grpC T.cells i))).length ≤ 8 := by unfold slotsF; exact Nat.le_trans (List.length_filter_le _ _) (by simp)
      refine t_skip <| n_code <| t_seq <| t_block <| sr <| mv rfl rfl <| asg rfl rfl <| lz <| l_q rfl (qlda rfl yA34 yS34) ?_
      refine l_q rfl (qlda rfl yA47 yS47) ?_
      refine mv rfl rfl <| lc1 rfl rfl rfl (group_ok pa off go i n l hP.hl T _ rfl (by omega)) ?_
      refine lc1 rfl rfl rfl (Word_ok pa (go + i * gN l) s l (grpC T.cells i) hP.hl g1 g2 g3) ?_
      refine mv rfl rfl <| l_q rfl (q_extractL rfl ga) ?_
      refine l_q rfl (q_extractL rfl ga) ?_
      refine asg rfl rfl <| asg rfl rfl <| lc <| t_seq <| sr <| mv rfl rfl <| l_q rfl (qi rfl rfl (b_neq ·)) <| lc <| t_if rfl (fun y => ?_) fun y => ?_
      · exact absurd rfl y
      · refine t_skip <| n_code <| t_region <| mv rfl rfl <| mv rfl rfl <| lc1 rfl rfl rfl (MatchE_ok g3) ?_
        refine lc1 rfl rfl rfl (Count_ok (empS (grpC T.cells i))) ?_
        refine l_q rfl (qsub rfl rfl) ?_
        refine l_q rfl (qadd rfl rfl) ?_
        refine asg rfl rfl <| l_nil <| n_blk <| n_code <| t_region <| l_q rfl (qadd rfl rfl) ?_
        refine mv rfl rfl <| l_nil ?_
        apply n_again ((i + 1))
        · exact by omega
        · omega
        · exact ⟨rfl, rfl, rfl, congrArg (fun z => some (Value.int .i64 z)) (by rw [hes]; push_cast; omega), rfl, rfl, trivial⟩
        · exact en
    · skip
      obtain rfl : i = n := by omega
      have hc1 := cnt_le isEmp T.cells (8 * i)
      refine xt rfl <| n_code <| t_seq <| t_seq <| t_draw mixed ?_
      apply dq 0 rfl
      · exact yq (q_move rfl)
      apply dq 1 rfl
      · exact yq (qfa 2 rfl yU47 rfl rfl yS3)
      apply dq 2 rfl
      · exact yq (qld rfl yA3)
      apply dq 3 rfl
      · exact yq (q_un rfl (u_neg ·))
      apply dq 4 rfl
      · exact yq (qi rfl rfl (b_lss ·))
      apply dq 5 rfl
      · exact yq (q_move rfl)
      rw [hneg]
      refine d_pt (t := 48) rfl (fun p1 => ?_) fun p1 => ?_
      · omega
      · apply dq 6 rfl
        · exact yq_on rfl rfl (q_move rfl)
        apply dq 7 rfl
        · exact yq_on rfl rfl (qfa 1 rfl yU47 rfl rfl yS3)
        apply dq 8 rfl
        · exact yq_on rfl rfl (qld rfl yA3)
        apply dq 10 rfl
        · exact yq_on rfl rfl (q_move rfl)
        apply dq 12 rfl
        · exact yq_on rfl rfl (qfa 2 rfl yU47 rfl rfl yS3)
        apply dq 13 rfl
        · exact yq_on rfl rfl (qld rfl yA3)
        refine d_eff1 [8, 5, 7, 4, 0, 3, 2, 1] [13, 12, 10, 6] 9 [(51, _), (48, _)] gO ⟨rfl, rfl, trivial⟩ (by kernel_rfl) (by kernel_rfl) fun Ex => ?_
        refine l_on rfl rfl <| lc1 rfl rfl rfl (Most_n hP.he hP.hn) ?_
        refine l_nil ?_
        apply n_d
        · refine ⟨?_, ?_, ?_, ?_, trivial⟩
          · apply ya rfl rfl; exact yq_on rfl rfl (qld rfl yA3)
          · apply ya rfl rfl; exact yq_on rfl rfl (qfa 2 rfl yU47 rfl rfl yS3)
          · apply ya rfl rfl; exact yq_on rfl rfl (q_move rfl)
          · apply ya rfl rfl; exact yq_on rfl rfl (q_move rfl)
        apply dq 11 rfl
        · exact yq_on rfl rfl (qsub rfl rfl)
        apply dq 14 rfl
        · exact yq_on rfl rfl (qsub rfl rfl)
        apply dq 15 rfl
        · exact yq_on rfl rfl (qi rfl rfl (b_gtr ·))
        apply dq 16 rfl
        · exact yq (q_pk rfl rfl)
        refine d_end (by kernel_rfl) ?_
        refine n_code <| t_if rfl (fun p2 => ?_) fun p2 => ?_
        · omega
        · refine t_skip <| nz <| l_q rfl (qlda rfl yA34 yS34) ?_
          refine l_q rfl (qfa 2 rfl yU47 rfl rfl yS3) <| l_q rfl (qld rfl yA3) ?_
          refine mv rfl rfl <| l_q rfl (qadd rfl rfl) ?_
          refine lcf rfl rfl rfl (set_ok pa off 5 s l 40 (T.left + v) rfl (by decide) hP.gh) ?_
          rintro r2 L' rfl
          refine l_nm ?_
          exact lz <| asg rfl rfl <| lc <| rt <| fr1 rfl ([arenaH pa (s.put (off + 8 * 5) 8 (byteN (IntKind.u64.wrap (T.left + v))))]) (.tmp rfl) ⟨_, rfl, rfl, hw.1, hw.2⟩
end
end Go.Proofs.YtgijnebgchkenaaGreatDoor.Table
