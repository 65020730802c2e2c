import Derived.Test.YtgijnebgchkenaaGreatDoorSmallN
/- Contracts of package small: Get, Put, Delete. -/
set_option linter.unusedVariables false
set_option linter.unusedSimpArgs false
set_option maxRecDepth 100000
namespace Go.Proofs.YtgijnebgchkenaaGreatDoor.Small
open Go.RowKit Go.Proofs Go.Proofs.YtgijnebgchkenaaGreatDoor.Eng Go.Proofs.YtgijnebgchkenaaGreatDoor.Ty Go.Proofs.YtgijnebgchkenaaGreatDoor.Bits Go.Proofs.YtgijnebgchkenaaGreatDoor.Mem Go.Proofs.YtgijnebgchkenaaGreatDoor.Search Go.Proofs.YtgijnebgchkenaaGreatDoor.Arena Go.Proofs.YtgijnebgchkenaaGreatDoor.CtrlB Go.Proofs.YtgijnebgchkenaaGreatDoor.Ctrl Go.Proofs.YtgijnebgchkenaaGreatDoor.Layout Go.Proofs.YtgijnebgchkenaaGreatDoor.GroupB Go.Proofs.YtgijnebgchkenaaGreatDoor.Group Go.Proofs.YtgijnebgchkenaaGreatDoor.TableB Go.Proofs.YtgijnebgchkenaaGreatDoor.Table


def reel (c : Cell) (e : ByteArray) : Cell := match c with
  | .full t k _ b => .full t k e b
  | c => c
def putS (S : Sm) (t : Nat) (key elem : ByteArray) (birth : Int) : Int × Sm :=
  if atS S t key < 8 then (1, { S with cells := updC S.cells (atS S t key) (reel (S.cells (atS S t key)) elem) })
  else if firstF (vacS S.cells) = 8 then (3, S)
  else (2, { S with used := S.used + 1, cells := updC S.cells (firstF (vacS S.cells)) (.full t key elem birth) })
def delS (S : Sm) (t : Nat) (key : ByteArray) : Bool × Sm :=
  if atS S t key < 8 then (true, { S with used := S.used - 1, cells := updC S.cells (atS S t key) .empty }) else (false, S)
def getS (S : Sm) (t : Nat) (key : ByteArray) : Cell := if atS S t key < 8 then S.cells (atS S t key) else .empty
theorem at_hit {S : Sm} {t : Nat} {key : ByteArray} (h : atS S t key < 8) : ∃ e b, S.cells (atS S t key) = .full (t : Int) key e b := by
  unfold atS at h ⊢
  obtain ⟨e, b, hc⟩ := TableI.hit_cell (firstF_lt h)
  exact ⟨e, b, hc⟩
theorem at_I {S : Sm} {t : Nat} {key : ByteArray} (h : atS S t key < 8) : atI S t key = (atS S t key : Nat) := by unfold atI; rw [if_neg (by omega)]
theorem at_no {S : Sm} {t : Nat} {key : ByteArray} (h : ¬ atS S t key < 8) : atI S t key = -1 := by
  have : atS S t key ≤ 8 := firstF_le _
  unfold atI; rw [if_pos (by omega)]
section
variable (G : HP) (hGT : TabOk G) (pa off : Nat) (s : ArS) (l : Lay) (S : Sm) (hP : SmP s off l S) (t : Nat) (ht : t < 128) (key : ByteArray) (hk : key.size = kN l)
include hP hGT ht hk
theorem SGet_ok : FnOk Tryz.prog 98 #[.agg #[.pointer (some ⟨pa, 0, none⟩), .int .i64 l.key, .int .i64 l.elem, .int .i64 l.ka, .int .i64 l.ea, .int .i64 l.cap, .int .i64 l.eo, .int .i64 l.bo, .int .i64 l.slot, .int .i64 l.group, .int .i64 (off : Nat)], .int .i64 t, .string key] [G, arenaH pa s]
    (fun v L => v = .tuple #[.agg #[.int .i64 (getS S t key).kind, .int .i64 (getS S t key).tagI, .string (getS S t key).keyS, .string (getS S t key).elemS, .int .i64 (getS S t key).birthI], .int .i64 0] ∧ L = [G, arenaH pa s]) := by
  have hG := hP.grp
  refine fn_intro en98 Tryz.func98 rfl rfl rfl fun Fr w0 => t_nm ?_
  refine t_pure (φ := s.ok) (fun w hw => arena_ok hw (.there .here)) fun hok0 => ?_
  refine sr <| o_boxA rfl rfl fun b3 => o_allocA rfl yZ54 fun b6 => asg rfl rfl <| lz <| l_q rfl (qlda rfl yA98 yS98) ?_
  refine mv rfl rfl <| mv rfl rfl <| lc1 rfl rfl rfl (sfind_ok G hGT pa off s l S hP t ht key hk) ?_
  rcases Nat.lt_or_ge (atS S t key) 8 with h8 | h8
  · rw [at_I h8]
    refine mv rfl rfl <| l_q rfl (q_extractL rfl ga) ?_
    refine l_q rfl (q_extractL rfl ga) ?_
    refine l_q rfl (q_extractL rfl ga) ?_
    refine o_allocA rfl yZ105 fun b8 => sta rfl rfl rfl yS105 rfl rfl ?_
    refine asg rfl rfl <| asg rfl rfl <| lc <| t_seq <| sr <| mv rfl rfl <| l_q rfl (qi rfl rfl (b_neq ·)) <| mv rfl rfl <| l_pt (t := 21) rfl (fun p1 => ?_) fun p1 => ?_
    · exact absurd rfl p1
    · refine l_on rfl rfl <| mv rfl rfl <| l_on rfl rfl <| l_q rfl (qi rfl rfl (b_lss ·)) <| l_q rfl (q_pk rfl rfl) <| lc <| t_if rfl (fun p2 => ?_) fun p2 => ?_
      · omega
      · refine t_skip <| nz <| l_q rfl (qlda rfl yA98 yS98) ?_
        refine lc1 rfl rfl rfl (sgroup_ok pa off s l S hP hok0) ?_
        refine mv rfl rfl <| lc1 rfl rfl rfl (Cell_ok pa (off + 32) s l S.cells hP.hl hG hP.body hP.okc (atS S t key) h8) ?_
        refine l_q rfl (q_extractL rfl ga) ?_
        refine l_q rfl (q_extractL rfl ga) ?_
        refine sta rfl rfl rfl yS54 rfl rfl ?_
        refine asg rfl rfl <| lc <| rt ?_
        apply f_ret (.inl rfl) ([G, arenaH pa s])
        · apply res2 rfl
          · apply Rv.agg rfl
            · exact tk
            · exact run_loadAll yA54 yS54 rfl
          · exact .tmp rfl
        · exact ⟨by unfold getS; rw [if_pos h8], rfl⟩
        · exact en
  · rw [at_no (by omega)]
    refine mv rfl rfl <| l_q rfl (q_extractL rfl ga) ?_
    refine l_q rfl (q_extractL rfl ga) ?_
    refine l_q rfl (q_extractL rfl ga) ?_
    refine o_allocA rfl yZ105 fun b8 => sta rfl rfl rfl yS105 rfl rfl ?_
    refine asg rfl rfl <| asg rfl rfl <| lc <| t_seq <| sr <| mv rfl rfl <| l_q rfl (qi rfl rfl (b_neq ·)) <| mv rfl rfl <| l_pt (t := 21) rfl (fun p1 => ?_) fun p1 => ?_
    · exact absurd rfl p1
    · refine l_on rfl rfl <| mv rfl rfl <| l_on rfl rfl <| l_q rfl (qi rfl rfl (b_lss ·)) <| l_q rfl (q_pk rfl rfl) <| lc <| t_if rfl (fun p2 => ?_) fun p2 => ?_
      · refine sr ?_
        apply l_q rfl
        · apply q_buildS rfl yP54 yZ54
          · exact FillR.nil
        refine mv rfl rfl <| sta rfl rfl rfl yS54 rfl rfl ?_
        refine asg rfl rfl <| lc <| rt ?_
        apply f_ret (.inl rfl) ([G, arenaH pa s])
        · apply res2 rfl
          · apply Rv.agg rfl
            · exact tk
            · exact run_loadAll yA54 yS54 rfl
          · exact .tmp rfl
        · exact ⟨by unfold getS; rw [if_neg (by omega)]; rfl, rfl⟩
        · exact en
      · omega
theorem SDelete_ok (hu : 0 ≤ S.used ∧ S.used ≤ 1099511627776) : FnOk Tryz.prog 96 #[.agg #[.pointer (some ⟨pa, 0, none⟩), .int .i64 l.key, .int .i64 l.elem, .int .i64 l.ka, .int .i64 l.ea, .int .i64 l.cap, .int .i64 l.eo, .int .i64 l.bo, .int .i64 l.slot, .int .i64 l.group, .int .i64 (off : Nat)], .int .i64 t, .string key] [G, arenaH pa s]
    (fun v L => ∃ s', v = .tuple #[.bool (delS S t key).1, .int .i64 0] ∧ L = [G, arenaH pa s'] ∧ SmP s' off l (delS S t key).2 ∧ Lays s s') := by
  have hG := hP.grp
  have hbd := Lay.bnd hP.hl
  refine fn_intro en96 Tryz.func96 rfl rfl rfl fun Fr w0 => t_nm ?_
  refine t_pure (φ := s.ok) (fun w hw => arena_ok hw (.there .here)) fun hok0 => ?_
  refine sr <| o_boxA rfl rfl fun b3 => asg rfl rfl <| asg rfl rfl <| lz <| l_q rfl (qlda rfl yA98 yS98) ?_
  refine mv rfl rfl <| mv rfl rfl <| lc1 rfl rfl rfl (sfind_ok G hGT pa off s l S hP t ht key hk) ?_
  rcases Nat.lt_or_ge (atS S t key) 8 with h8 | h8
  · rw [at_I h8, show delS S t key = (true, { S with used := S.used - 1, cells := updC S.cells (atS S t key) .empty }) from by unfold delS; rw [if_pos h8]]
    have hw := hP.cell (c := .empty) h8 trivial
    have w1 := hw.word (S' := { S with used := S.used - 1, cells := updC S.cells (atS S t key) .empty }) (k := 3) (v := S.used - 1) (by decide) (by omega) rfl (fun j hj hne => by
      have : j = 0 ∨ j = 1 ∨ j = 2 := by omega
      rcases this with rfl | rfl | rfl <;> rfl) rfl
    refine mv rfl rfl <| l_q rfl (q_extractL rfl ga) ?_
    refine l_q rfl (q_extractL rfl ga) ?_
    refine l_q rfl (q_extractL rfl ga) ?_
    refine o_allocA rfl yZ105 fun b8 => sta rfl rfl rfl yS105 rfl rfl ?_
    refine asg rfl rfl <| asg rfl rfl <| lc <| t_seq <| sr <| mv rfl rfl <| l_q rfl (qi rfl rfl (b_neq ·)) <| mv rfl rfl <| l_pt (t := 22) rfl (fun p1 => ?_) fun p1 => ?_
    · exact absurd rfl p1
    · refine l_on rfl rfl <| mv rfl rfl <| l_on rfl rfl <| l_q rfl (qi rfl rfl (b_lss ·)) <| l_q rfl (q_pk rfl rfl) <| lc <| t_if rfl (fun p2 => ?_) fun p2 => ?_
      · omega
      · refine t_skip <| n_code <| t_seq <| sr <| l_q rfl (qlda rfl yA98 yS98) ?_
        refine lc1 rfl rfl rfl (sgroup_ok pa off s l S hP hok0) ?_
        refine mv rfl rfl <| lc1 rfl rfl rfl (Erase_ok pa (off + 32) s l S.cells hP.hl hG hP.body hP.okc (atS S t key) false h8) ?_
        simp only [Bool.false_eq_true, ↓reduceIte]
        refine asg rfl rfl <| lz <| mv rfl rfl <| l_q rfl (qi rfl rfl (b_neq ·)) <| lc <| t_if rfl (fun p3 => ?_) fun p3 => ?_
        · exact absurd rfl p3
        · refine t_skip <| nz <| l_q rfl (qlda rfl yA98 yS98) ?_
          refine l_q rfl (qfa 0 rfl yU105 rfl rfl yS3) <| l_q rfl (qld rfl yA3) ?_
          refine l_q rfl (qsub rfl rfl) ?_
          refine lcf rfl rfl rfl (sset_ok pa off _ l hw.gh (by omega) 3 24 _ rfl (by decide)) ?_
          rintro v L' rfl
          refine l_nm ?_
          exact lz <| asg rfl rfl <| asg rfl rfl <| lc <| rt <| fr2 rfl ([G, arenaH pa ((s.put (off + 32) (gN l) (encG l (updC S.cells (atS S t key) .empty))).put (off + 8 * 3) 8 (byteN (IntKind.u64.wrap (S.used - 1))))]) (.tmp rfl) (.tmp rfl) (⟨_, rfl, rfl, w1, ⟨rfl, rfl, rfl⟩⟩)
  · rw [at_no (by omega), show delS S t key = (false, S) from by unfold delS; rw [if_neg (by omega)]]
    refine mv rfl rfl <| l_q rfl (q_extractL rfl ga) ?_
    refine l_q rfl (q_extractL rfl ga) ?_
    refine l_q rfl (q_extractL rfl ga) ?_
    refine o_allocA rfl yZ105 fun b8 => sta rfl rfl rfl yS105 rfl rfl ?_
    refine asg rfl rfl <| asg rfl rfl <| lc <| t_seq <| sr <| mv rfl rfl <| l_q rfl (qi rfl rfl (b_neq ·)) <| mv rfl rfl <| l_pt (t := 22) rfl (fun p1 => ?_) fun p1 => ?_
    · exact absurd rfl p1
    · refine l_on rfl rfl <| mv rfl rfl <| l_on rfl rfl <| l_q rfl (qi rfl rfl (b_lss ·)) <| l_q rfl (q_pk rfl rfl) <| lc <| t_if rfl (fun p2 => ?_) fun p2 => ?_
      · exact sr <| mv rfl rfl <| asg rfl rfl <| asg rfl rfl <| lc <| rt <| fr2 rfl ([G, arenaH pa s]) (.tmp rfl) (.tmp rfl) (⟨s, rfl, rfl, hP, ⟨rfl, rfl, rfl⟩⟩)
      · omega
theorem SPut_ok (elem : ByteArray) (he : elem.size = eN l) (birth : Int) (hb : 0 ≤ birth ∧ birth < 9223372036854775808) (hu : 0 ≤ S.used ∧ S.used ≤ 1099511627776) :
    FnOk Tryz.prog 95 #[.agg #[.pointer (some ⟨pa, 0, none⟩), .int .i64 l.key, .int .i64 l.elem, .int .i64 l.ka, .int .i64 l.ea, .int .i64 l.cap, .int .i64 l.eo, .int .i64 l.bo, .int .i64 l.slot, .int .i64 l.group, .int .i64 (off : Nat)], .int .i64 t, .string key, .string elem, .int .i64 birth] [G, arenaH pa s]
    (fun v L => ∃ s', v = .tuple #[.int .i64 (putS S t key elem birth).1, .int .i64 0] ∧ L = [G, arenaH pa s'] ∧ SmP s' off l (putS S t key elem birth).2 ∧ Lays s s') := by
  have hG := hP.grp
  have hbd := Lay.bnd hP.hl
  have hes : (elem.size : Int) = l.elem := by rw [he]; exact hP.hN.e
  refine fn_intro en95 Tryz.func95 rfl rfl rfl fun Fr w0 => t_nm ?_
  refine t_pure (φ := s.ok) (fun w hw => arena_ok hw (.there .here)) fun hok0 => ?_
  refine sr <| o_boxA rfl rfl fun b5 => asg rfl rfl <| asg rfl rfl <| lz <| l_q rfl (qlda rfl yA98 yS98) ?_
  refine mv rfl rfl <| mv rfl rfl <| lc1 rfl rfl rfl (sfind_ok G hGT pa off s l S hP t ht key hk) ?_
  rcases Nat.lt_or_ge (atS S t key) 8 with h8 | h8
  · obtain ⟨e0, b0, hc⟩ := at_hit h8
    rw [at_I h8, show putS S t key elem birth = (1, { S with cells := updC S.cells (atS S t key) (.full (t : Int) key elem b0) }) from by unfold putS; rw [if_pos h8, hc]; rfl]
    have hco := hP.okc _ h8
    rw [hc] at hco
    have hw := hP.cell (c := .full (t : Int) key elem b0) h8 (by obtain ⟨c1, c2, c3, c4, c5⟩ := hco; exact ⟨c1, c2, c3, he, c5⟩)
    refine mv rfl rfl <| l_q rfl (q_extractL rfl ga) ?_
    refine l_q rfl (q_extractL rfl ga) ?_
    refine l_q rfl (q_extractL rfl ga) ?_
    refine o_allocA rfl yZ105 fun b12 => sta rfl rfl rfl yS105 rfl rfl ?_
    refine asg rfl rfl <| asg rfl rfl <| lc <| t_seq <| t_block <| sr <| mv rfl rfl <| l_q rfl (qi rfl rfl (b_neq ·)) <| mv rfl rfl <| l_pt (t := 28) rfl (fun p1 => ?_) fun p1 => ?_
    · exact absurd rfl p1
    · refine l_off rfl rfl rfl rfl <| l_off rfl rfl rfl rfl <| l_q rfl (q_pk rfl rfl) <| asg rfl rfl <| lc <| t_cond_f rfl <| sr <| mv rfl rfl <| l_q rfl (qls rfl yU9) <| l_q rfl (qfa 1 rfl yU98 rfl rfl yS32) <| l_q rfl (qfa 1 rfl yU32 rfl rfl yS3) <| l_q rfl (qld rfl yA3) ?_
      refine l_q rfl (qi rfl rfl (b_neq ·)) <| asg rfl rfl <| lc <| t_if rfl (fun p2 => ?_) fun p2 => ?_
      · omega
      · refine sr <| mv rfl rfl <| l_q rfl (qi rfl rfl (b_neq ·)) <| asg rfl rfl <| lc <| t_if rfl (fun p3 => ?_) fun p3 => ?_
        · exact absurd rfl p3
        · refine sr <| mv rfl rfl <| l_q rfl (qi rfl rfl (b_lss ·)) <| asg rfl rfl <| lc <| t_if rfl (fun p4 => ?_) fun p4 => ?_
          · omega
          · refine sr <| mv rfl rfl <| l_q rfl (qi rfl rfl (b_geq ·)) <| asg rfl rfl <| lc <| t_if rfl (fun p5 => ?_) fun p5 => ?_
            · refine sr <| l_q rfl (qlda rfl yA98 yS98) ?_
              refine lc1 rfl rfl rfl (sgroup_ok pa off s l S hP hok0) ?_
              refine mv rfl rfl <| mv rfl rfl <| lc1 rfl rfl rfl (SetElem_ok pa (off + 32) s l S.cells hP.hl hG hP.body hP.okc (atS S t key) t key e0 elem b0 h8 hc he) ?_
              exact asg rfl rfl <| asg rfl rfl <| lc <| rt <| fr2 rfl ([G, arenaH pa (s.put (off + 32) (gN l) (encG l (updC S.cells (atS S t key) (.full (t : Int) key elem b0))))]) (.tmp rfl) (.tmp rfl) (⟨_, rfl, rfl, hw, ⟨rfl, rfl, rfl⟩⟩)
            · omega
  · rw [at_no (by omega)]
    have hfv := firstF_le (vacS S.cells)
    have hcell : (Cell.full (t : Int) key elem birth).ok l := ⟨by omega, by omega, hk, he, hb.1, hb.2⟩
    refine mv rfl rfl <| l_q rfl (q_extractL rfl ga) ?_
    refine l_q rfl (q_extractL rfl ga) ?_
    refine l_q rfl (q_extractL rfl ga) ?_
    refine o_allocA rfl yZ105 fun b12 => sta rfl rfl rfl yS105 rfl rfl ?_
    refine asg rfl rfl <| asg rfl rfl <| lc <| t_seq <| t_block <| sr <| mv rfl rfl <| l_q rfl (qi rfl rfl (b_neq ·)) <| mv rfl rfl <| l_pt (t := 28) rfl (fun p1 => ?_) fun p1 => ?_
    · exact absurd rfl p1
    · refine l_off rfl rfl rfl rfl <| l_off rfl rfl rfl rfl <| l_q rfl (q_pk rfl rfl) <| asg rfl rfl <| lc <| t_cond_f rfl <| sr <| mv rfl rfl <| l_q rfl (qls rfl yU9) <| l_q rfl (qfa 1 rfl yU98 rfl rfl yS32) <| l_q rfl (qfa 1 rfl yU32 rfl rfl yS3) <| l_q rfl (qld rfl yA3) ?_
      refine l_q rfl (qi rfl rfl (b_neq ·)) <| asg rfl rfl <| lc <| t_if rfl (fun p2 => ?_) fun p2 => ?_
      · omega
      · refine sr <| mv rfl rfl <| l_q rfl (qi rfl rfl (b_neq ·)) <| asg rfl rfl <| lc <| t_if rfl (fun p3 => ?_) fun p3 => ?_
        · exact absurd rfl p3
        · refine sr <| mv rfl rfl <| l_q rfl (qi rfl rfl (b_lss ·)) <| asg rfl rfl <| lc <| t_if rfl (fun p4 => ?_) fun p4 => ?_
          · omega
          · refine sr <| mv rfl rfl <| l_q rfl (qi rfl rfl (b_geq ·)) <| asg rfl rfl <| lc <| t_if rfl (fun p5 => ?_) fun p5 => ?_
            · omega
            · refine t_skip <| n_blk <| nz <| l_q rfl (qlda rfl yA98 yS98) ?_
              refine lc1 rfl rfl rfl (sgroup_ok pa off s l S hP hok0) ?_
              refine lc1 rfl rfl rfl (Word_ok pa (off + 32) s l S.cells hP.hl hG hP.body hP.okc) ?_
              refine mv rfl rfl <| l_q rfl (q_extractL rfl ga) ?_
              refine l_q rfl (q_extractL rfl ga) ?_
              refine asg rfl rfl <| asg rfl rfl <| lc <| t_seq <| sr <| mv rfl rfl <| l_q rfl (qi rfl rfl (b_neq ·)) <| lc <| t_if rfl (fun p6 => ?_) fun p6 => ?_
              · exact absurd rfl p6
              · refine t_skip <| nz <| mv rfl rfl <| lc1 rfl rfl rfl (MatchV_ok hP.okc) ?_
                refine lc1 rfl rfl rfl (First_ok G hGT (vacS S.cells)) ?_
                refine asg rfl rfl <| lc <| t_seq <| sr <| mv rfl rfl <| l_q rfl (qi rfl rfl (b_eql ·)) <| lc <| t_if rfl (fun p7 => ?_) fun p7 => ?_
                · refine sr <| asg rfl rfl <| asg rfl rfl <| lc <| rt <| fr2 rfl ([G, arenaH pa s]) (.tmp rfl) (.tmp rfl) ?_
                  have hp : putS S t key elem birth = (3, S) := (by unfold putS; rw [if_neg (by omega), if_pos (by omega)]); rw [hp]; exact ⟨s, rfl, rfl, hP, ⟨rfl, rfl, rfl⟩⟩
                · refine t_skip <| n_code <| t_seq <| sr <| l_q rfl (qlda rfl yA98 yS98) ?_
                  have hw := hP.cell (i := firstF (vacS S.cells)) (by omega) hcell
                  have w1 := hw.word (S' := { S with used := S.used + 1, cells := updC S.cells (firstF (vacS S.cells)) (.full (t : Int) key elem birth) }) (k := 3) (v := S.used + 1) (by decide) (by omega) rfl (fun j hj hne => by
                    have : j = 0 ∨ j = 1 ∨ j = 2 := by omega
                    rcases this with rfl | rfl | rfl <;> rfl) rfl
                  refine lc1 rfl rfl rfl (sgroup_ok pa off s l S hP hok0) ?_
                  refine mv rfl rfl <| mv rfl rfl <| mv rfl rfl <| mv rfl rfl <| mv rfl rfl <| lc1 rfl rfl rfl (Fill_ok pa (off + 32) s l S.cells hP.hl hG hP.body hP.okc (firstF (vacS S.cells)) t key elem birth (by omega) ht hk he hb) ?_
                  refine asg rfl rfl <| lz <| mv rfl rfl <| l_q rfl (qi rfl rfl (b_neq ·)) <| lc <| t_if rfl (fun p8 => ?_) fun p8 => ?_
                  · exact absurd rfl p8
                  · refine t_skip <| nz <| l_q rfl (qlda rfl yA98 yS98) ?_
                    refine l_q rfl (qfa 0 rfl yU105 rfl rfl yS3) <| l_q rfl (qld rfl yA3) ?_
                    refine l_q rfl (qadd rfl rfl) ?_
                    refine lcf rfl rfl rfl (sset_ok pa off _ l hw.gh (by omega) 3 24 _ rfl (by decide)) ?_
                    rintro v L' rfl
                    refine l_nm ?_
                    refine lz <| asg rfl rfl <| asg rfl rfl <| lc <| rt <| fr2 rfl ([G, arenaH pa ((s.put (off + 32) (gN l) (encG l (updC S.cells (firstF (vacS S.cells)) (.full (t : Int) key elem birth)))).put (off + 8 * 3) 8 (byteN (IntKind.u64.wrap (S.used + 1))))]) (.tmp rfl) (.tmp rfl) ?_
                    have hp : putS S t key elem birth = (2, { S with used := S.used + 1, cells := updC S.cells (firstF (vacS S.cells)) (.full (t : Int) key elem birth) }) := (by unfold putS; rw [if_neg (by omega), if_neg (by omega)]); rw [hp]; exact ⟨_, rfl, rfl, w1, ⟨rfl, rfl, rfl⟩⟩
end
end Go.Proofs.YtgijnebgchkenaaGreatDoor.Small
