import Derived.Test.YtgijnebgchkenaaGreatDoorTableW
import Derived.Test.YtgijnebgchkenaaGreatDoorTableN
import Derived.Test.YtgijnebgchkenaaGreatDoorOver
import Derived.KernelRfl
import Derived.Test.YtgijnebgchkenaaGreatDoorArenaF
section
/- Contracts of package table: Get, Delete. -/
set_option linter.unusedVariables false
set_option linter.unusedSimpArgs false
set_option maxRecDepth 100000
namespace Go.Proofs.YtgijnebgchkenaaGreatDoor.Table
open Go.RowKit Go.Proofs Go.Proofs.YtgijnebgchkenaaGreatDoor.Eng Go.Proofs.YtgijnebgchkenaaGreatDoor.Ty Go.Proofs.YtgijnebgchkenaaGreatDoor.Bits Go.Proofs.YtgijnebgchkenaaGreatDoor.Mem Go.Proofs.YtgijnebgchkenaaGreatDoor.Search Go.Proofs.YtgijnebgchkenaaGreatDoor.Arena Go.Proofs.YtgijnebgchkenaaGreatDoor.CtrlB Go.Proofs.YtgijnebgchkenaaGreatDoor.Ctrl Go.Proofs.YtgijnebgchkenaaGreatDoor.Layout Go.Proofs.YtgijnebgchkenaaGreatDoor.GroupB Go.Proofs.YtgijnebgchkenaaGreatDoor.Group Go.Proofs.YtgijnebgchkenaaGreatDoor.Probe Go.Proofs.YtgijnebgchkenaaGreatDoor.TableB Go.Proofs.YtgijnebgchkenaaGreatDoor.TableI

/-- The bits of a word, added up side by side. -/
def onesI (x : Int) : Int :=
  let a := IntKind.u64.wrap (bits .and .u64 (x.fdiv (2 ^ min (Int.toNat 1) IntKind.u64.bits)) 6148914691236517205 + bits .and .u64 x 6148914691236517205)
  let b := IntKind.u64.wrap (bits .and .u64 (a.fdiv (2 ^ min (Int.toNat 2) IntKind.u64.bits)) 3689348814741910323 + bits .and .u64 a 3689348814741910323)
  let c := bits .and .u64 (IntKind.u64.wrap (b.fdiv (2 ^ min (Int.toNat 4) IntKind.u64.bits) + b)) 1085102592571150095
  let d := IntKind.u64.wrap (c + c.fdiv (2 ^ min (Int.toNat 8) IntKind.u64.bits))
  let e := IntKind.u64.wrap (d + d.fdiv (2 ^ min (Int.toNat 16) IntKind.u64.bits))
  IntKind.u64.wrap (e + e.fdiv (2 ^ min (Int.toNat 32) IntKind.u64.bits))
theorem Ones_ok (s : Nat → Bool) : FnOk Tryz.prog 139 #[.int .u64 (selW s)] [] (fun v L => v = .int .i64 ((slotsF s).length : Nat) ∧ L = []) := by
  have ho : ∀ a b c d e f g h : Bool, bits .and .i64 (IntKind.i64.wrap (onesI (selW (sof a b c d e f g h)))) 127 = (((slotsF (sof a b c d e f g h)).length : Nat) : Int) := by decide +kernel
  refine fn_intro en139 Tryz.func139 rfl rfl rfl fun Fr w0 => t_nm ?_
  refine sr <| asg rfl rfl <| lz <| mv rfl rfl ?_
  apply l_q rfl
  · apply qi rfl rfl; first | exact fun w => b_shr_c (m := 2) w (by decide) (by decide) (by omega) | exact fun w => b_shr w (by decide)
  refine l_q rfl (qbit rfl rfl rfl) <| mv rfl rfl <| l_q rfl (qbit rfl rfl rfl) <| l_q rfl (qadd rfl rfl) ?_
  refine asg rfl rfl <| lz <| mv rfl rfl ?_
  apply l_q rfl
  · apply qi rfl rfl; first | exact fun w => b_shr_c (m := 4) w (by decide) (by decide) (by omega) | exact fun w => b_shr w (by decide)
  refine l_q rfl (qbit rfl rfl rfl) <| mv rfl rfl <| l_q rfl (qbit rfl rfl rfl) <| l_q rfl (qadd rfl rfl) ?_
  refine asg rfl rfl <| lz <| mv rfl rfl ?_
  apply l_q rfl
  · apply qi rfl rfl; first | exact fun w => b_shr_c (m := 16) w (by decide) (by decide) (by omega) | exact fun w => b_shr w (by decide)
  refine mv rfl rfl <| l_q rfl (qadd rfl rfl) ?_
  refine l_q rfl (qbit rfl rfl rfl) <| asg rfl rfl <| lz <| mv rfl rfl <| mv rfl rfl ?_
  apply l_q rfl
  · apply qi rfl rfl; first | exact fun w => b_shr_c (m := 256) w (by decide) (by decide) (by omega) | exact fun w => b_shr w (by decide)
  refine l_q rfl (qadd rfl rfl) ?_
  refine asg rfl rfl <| lz <| mv rfl rfl <| mv rfl rfl ?_
  apply l_q rfl
  · apply qi rfl rfl; first | exact fun w => b_shr_c (m := 65536) w (by decide) (by decide) (by omega) | exact fun w => b_shr w (by decide)
  refine l_q rfl (qadd rfl rfl) ?_
  refine asg rfl rfl <| lz <| mv rfl rfl <| mv rfl rfl ?_
  apply l_q rfl
  · apply qi rfl rfl; first | exact fun w => b_shr_c (m := 4294967296) w (by decide) (by decide) (by omega) | exact fun w => b_shr w (by decide)
  refine l_q rfl (qadd rfl rfl) ?_
  refine asg rfl rfl <| lz <| mv rfl rfl <| l_q rfl (qcv rfl yU52 yU3) ?_
  refine l_q rfl (qbit rfl rfl rfl) <| asg rfl rfl <| lc <| rt <| fr1 rfl ([]) (.tmp rfl) ?_
  refine ⟨?_, rfl⟩; congr 1; rw [selW_sof, slotsF_sof]; exact ho _ _ _ _ _ _ _ _
theorem Count_ok (s : Nat → Bool) : FnOk Tryz.prog 70 #[bitsV s] [] (fun v L => v = .int .i64 ((slotsF s).length : Nat) ∧ L = []) := by
  refine fn_intro en70 Tryz.func70 rfl rfl rfl fun Fr w0 => t_nm ?_
  refine sr <| o_boxA rfl rfl fun b1 => asg rfl rfl <| lz <| l_q rfl (qfa 0 rfl yU143 rfl rfl yS52) <| l_q rfl (qld rfl yA52) ?_
  refine lc1 rfl rfl rfl (Ones_ok s) ?_
  exact asg rfl rfl <| lc <| rt <| fr1 rfl ([]) (.tmp rfl) ⟨rfl, rfl⟩
section
variable (G : HP) (hG : TabOk G) (pa off go n e : Nat) (s : ArS) (l : Lay) (T : Tb) (hP : TabP s off go l n e T)
include hP hG
/-- What Get gives. -/
def getC (n : Nat) (T : Tb) (h : Int) (key : ByteArray) : Cell := if 0 ≤ (searchR (h / 128) n T.cells (h % 128) key).slot then T.cells (searchR (h / 128) n T.cells (h % 128) key).slot.toNat else .empty
theorem Delete_ok (h : Int) (hh : 0 ≤ h ∧ h < 18446744073709551616) (key : ByteArray) (hk : key.size = kN l) (hu : 0 ≤ T.used ∧ T.used ≤ 1099511627776) (hlf : 0 ≤ T.left ∧ T.left ≤ 1099511627776) :
    FnOk Tryz.prog 19 #[.agg #[.pointer (some ⟨pa, 0, none⟩), .int .i64 l.key, .int .i64 l.elem, .int .i64 l.ka, .int .i64 l.ea, .int .i64 l.cap, .int .i64 l.eo, .int .i64 l.bo, .int .i64 l.slot, .int .i64 l.group, .int .i64 (off : Nat)], .int .u64 h, .string key] [G, arenaH pa s]
      (fun v L => ∃ s', v = .tuple #[.bool (delT n T h key).1, .int .i64 0] ∧ L = [G, arenaH pa s'] ∧ TabP s' off go l n e (delT n T h key).2 ∧ SameBut s s' off go (n * gN l)) := by
  have hn8 := hP.n0
  refine fn_intro en19 Tryz.func19 rfl rfl rfl fun Fr w0 => t_nm ?_
  refine t_pure (φ := s.ok) (fun w hw => arena_ok hw (.there .here)) fun hok0 => ?_
  refine sr <| o_boxA rfl rfl fun b3 => asg rfl rfl <| asg rfl rfl <| lz <| l_q rfl (qlda rfl yA34 yS34) ?_
  refine mv rfl rfl <| mv rfl rfl <| lc1 rfl rfl rfl (searchP_ok G hG pa off go n e s l T hP h hh key hk) ?_
  refine mv rfl rfl <| l_q rfl (q_extractL rfl ga) ?_
  refine l_q rfl (q_extractL rfl ga) ?_
  refine l_q rfl (q_extractL rfl ga) ?_
  refine o_allocA rfl yZ47 fun b8 => o_allocA rfl yZ133 fun b9 => sta rfl rfl rfl yS47 rfl rfl ?_
  refine sta rfl rfl rfl yS133 rfl rfl ?_
  refine asg rfl rfl <| lc <| t_seq <| sr <| mv rfl rfl <| l_q rfl (qi rfl rfl (b_neq ·)) <| mv rfl rfl ?_
  rcases (show (searchR (h / 128) n T.cells (h % 128) key).slot < 0 ∨ 0 ≤ (searchR (h / 128) n T.cells (h % 128) key).slot by omega) with hneg | hpos
  · refine l_pt (t := 25) rfl (fun p1 => ?_) fun p1 => ?_
    · exact absurd rfl p1
    · refine l_on rfl rfl <| l_q rfl (qfa 0 rfl yU133 rfl rfl yS3) <| l_on rfl rfl <| l_q rfl (qld rfl yA3) ?_
      refine l_on rfl rfl <| l_q rfl (qi rfl rfl (b_lss ·)) <| l_q rfl (q_pk rfl rfl) <| lc <| t_if rfl (fun p2 => ?_) fun p2 => ?_
      · refine sr <| mv rfl rfl <| asg rfl rfl <| asg rfl rfl <| lc <| rt <| fr2 rfl ([G, arenaH pa s]) (.tmp rfl) (.tmp rfl) ?_
        have hd : delT n T h key = (false, T) := (by unfold delT; rw [if_neg (by omega)]); rw [hd]; exact ⟨s, rfl, rfl, hP, SameBut.refl _ _ _ _⟩
      · omega
  · obtain ⟨g, i, hg, hi, h2, e0, b0, h3⟩ := search_slot (home := h / 128) (cells := T.cells) (tag := h % 128) (key := key) hn8.1 hpos
    obtain ⟨hgood, hG', hok', hin⟩ := hP.grpAt hg
    rw [h2]
    refine l_pt (t := 25) rfl (fun p1 => ?_) fun p1 => ?_
    · exact absurd rfl p1
    · refine l_on rfl rfl <| l_q rfl (qfa 0 rfl yU133 rfl rfl yS3) <| l_on rfl rfl <| l_q rfl (qld rfl yA3) ?_
      refine l_on rfl rfl <| l_q rfl (qi rfl rfl (b_lss ·)) <| l_q rfl (q_pk rfl rfl) <| lc <| t_if rfl (fun p2 => ?_) fun p2 => ?_
      · omega
      · refine t_skip <| nz <| l_q rfl (qlda rfl yA34 yS34) ?_
        refine l_q rfl (qlda rfl yA47 yS47) ?_
        refine l_q rfl (qfa 0 rfl yU133 rfl rfl yS3) <| l_q rfl (qld rfl yA3) ?_
        refine l_q rfl (qquo rfl rfl) ?_
        refine lc1 rfl rfl rfl (groupP_ok pa off go n e s l T hP hok0 (g := g) hg _ (by omega)) ?_
        refine o_allocA rfl yZ63 fun b11 => sta rfl rfl rfl yS63 rfl rfl ?_
        refine lz <| l_q rfl (qlda rfl yA63 yS63) ?_
        refine lc1 rfl rfl rfl (Word_ok pa (go + g * gN l) s l (grpC T.cells g) hP.hl hgood hG' hok') ?_
        refine mv rfl rfl <| l_q rfl (q_extractL rfl ga) ?_
        refine l_q rfl (q_extractL rfl ga) ?_
        refine asg rfl rfl <| asg rfl rfl <| lc <| t_seq <| sr <| mv rfl rfl <| l_q rfl (qi rfl rfl (b_neq ·)) <| lc <| t_if rfl (fun p3 => ?_) fun p3 => ?_
        · exact absurd rfl p3
        · refine t_skip <| nz <| mv rfl rfl <| lc1 rfl rfl rfl (MatchE_ok hok') ?_
          have hpb : passedB T.cells (8 * g + i) = decide ((slotsF (empS (grpC T.cells g))).length = 0) := by unfold passedB; rw [show (8 * g + i) / 8 = g by omega]
          have hd : delT n T h key = (true, { T with used := T.used - 1, left := if passedB T.cells (8 * g + i) then T.left else T.left + 1, cells := updC T.cells (8 * g + i) (if passedB T.cells (8 * g + i) then .deleted else .empty) }) := by
            unfold delT; rw [if_pos (by omega), h2, Int.toNat_natCast]
          rw [hd]
          have hcok : (if passedB T.cells (8 * g + i) = true then Cell.deleted else Cell.empty).ok l := by split <;> trivial
          have hw := hP.cell hg hi (c := if passedB T.cells (8 * g + i) then .deleted else .empty) hcok
          have w1 := hw.1.word (T' := { T with used := T.used - 1, cells := updC T.cells (8 * g + i) (if passedB T.cells (8 * g + i) then .deleted else .empty) }) (k := 3) (v := T.used - 1) (by decide) (by omega) rfl (head_ne (.inr rfl) (.inr rfl) (.inr rfl) (.inl rfl) (.inr rfl) (.inr rfl)) rfl
          refine lc1 rfl rfl rfl (Count_ok _) ?_
          rw [show (slotsF (empS (grpC T.cells g))).length = (if passedB T.cells (8 * g + i) then 0 else (slotsF (empS (grpC T.cells g))).length : Nat) by rw [hpb]; split <;> simp_all]
          refine l_q rfl (qi rfl rfl (b_eql ·)) <| asg rfl rfl <| lc <| t_seq <| sr <| l_q rfl (qlda rfl yA63 yS63) ?_
          refine l_q rfl (qfa 0 rfl yU133 rfl rfl yS3) <| l_q rfl (qld rfl yA3) ?_
          refine l_q rfl (qrem rfl rfl) ?_
          refine mv rfl rfl ?_
          rw [show ((8 * g + i : Nat) : Int) % 8 = ((i : Nat) : Int) by omega]
          refine lc1 rfl rfl rfl (Erase_ok pa (go + g * gN l) s l (grpC T.cells g) hP.hl hgood hG' hok' i _ hi) ?_
          rw [show (decide ((((if passedB T.cells (8 * g + i) then 0 else (slotsF (empS (grpC T.cells g))).length : Nat)) : Int) = 0)) = passedB T.cells (8 * g + i) by rw [hpb]; by_cases hz : (slotsF (empS (grpC T.cells g))).length = 0 <;> simp [hz]]
          refine asg rfl rfl <| lz <| mv rfl rfl <| l_q rfl (qi rfl rfl (b_neq ·)) <| lc <| t_if rfl (fun p5 => ?_) fun p5 => ?_
          · exact absurd rfl p5
          · refine t_skip <| nz <| l_q rfl (qlda rfl yA34 yS34) ?_
            refine l_q rfl (qfa 0 rfl yU47 rfl rfl yS3) <| l_q rfl (qld rfl yA3) ?_
            refine l_q rfl (qsub rfl rfl) ?_
            refine lcf rfl rfl rfl (set_ok pa off 3 _ l 24 _ rfl (by decide) hw.1.gh) ?_
            rintro v L' rfl
            refine l_nm ?_
            refine lc <| t_seq <| sr <| mv rfl rfl <| l_q rfl (q_un rfl (u_not ·)) <| lc ?_
            cases hpq : passedB T.cells (8 * g + i) with
            | true =>
              simp only [hpq, ↓reduceIte] at hw w1 ⊢
              refine t_if rfl (fun p6 => ?_) fun p6 => ?_
              · cases p6
              · exact t_skip <| nz <| asg rfl rfl <| asg rfl rfl <| lc <| rt <| fr2 rfl ([G, arenaH pa ((s.put (go + g * gN l) (gN l) (encG l (updC (grpC T.cells g) i .deleted))).put (off + 8 * 3) 8 (byteN (IntKind.u64.wrap (T.used - 1))))]) (.tmp rfl) (.tmp rfl) ⟨_, rfl, rfl, w1.1, hw.2.trans w1.2⟩
            | false =>
              simp only [hpq, Bool.false_eq_true, ↓reduceIte] at hw w1 ⊢
              refine t_if rfl (fun p6 => ?_) fun p6 => ?_
              · refine t_region <| l_q rfl (qlda rfl yA34 yS34) ?_
                refine l_q rfl (qfa 2 rfl yU47 rfl rfl yS3) <| l_q rfl (qld rfl yA3) ?_
                refine l_q rfl (qadd rfl rfl) ?_
                have w2 := w1.1.word (T' := { T with used := T.used - 1, left := T.left + 1, cells := updC T.cells (8 * g + i) .empty }) (k := 5) (v := T.left + 1) (by decide) (by omega) rfl (head_ne (.inr rfl) (.inr rfl) (.inr rfl) (.inr rfl) (.inl rfl) (.inr rfl)) rfl
                refine lcf rfl rfl rfl (set_ok pa off 5 _ l 40 _ rfl (by decide) w1.1.gh) ?_
                rintro v L' rfl
                refine l_nm ?_
                exact lz <| asg rfl rfl <| asg rfl rfl <| lc <| rt <| fr2 rfl ([G, arenaH pa (((s.put (go + g * gN l) (gN l) (encG l (updC (grpC T.cells g) i .empty))).put (off + 8 * 3) 8 (byteN (IntKind.u64.wrap (T.used - 1)))).put (off + 8 * 5) 8 (byteN (IntKind.u64.wrap (T.left + 1))))]) (.tmp rfl) (.tmp rfl) ⟨_, rfl, rfl, w2.1, (hw.2.trans w1.2).trans w2.2⟩
              · cases p6
end
end Go.Proofs.YtgijnebgchkenaaGreatDoor.Table
end
section
/- Contracts of larderlaw09: keys and births; of arena.Size, table.Off, Arena and Layout. -/
set_option linter.unusedVariables false
set_option linter.unusedSimpArgs false
set_option maxRecDepth 100000
namespace Go.Proofs.YtgijnebgchkenaaGreatDoor.Grow
open Go.RowKit Go.Proofs Go.Proofs.YtgijnebgchkenaaGreatDoor.Eng Go.Proofs.YtgijnebgchkenaaGreatDoor.Ty Go.Proofs.YtgijnebgchkenaaGreatDoor.Bits Go.Proofs.YtgijnebgchkenaaGreatDoor.Mem Go.Proofs.YtgijnebgchkenaaGreatDoor.Search Go.Proofs.YtgijnebgchkenaaGreatDoor.Arena Go.Proofs.YtgijnebgchkenaaGreatDoor.CtrlB Go.Proofs.YtgijnebgchkenaaGreatDoor.Ctrl Go.Proofs.YtgijnebgchkenaaGreatDoor.Layout Go.Proofs.YtgijnebgchkenaaGreatDoor.GroupB Go.Proofs.YtgijnebgchkenaaGreatDoor.Group Go.Proofs.YtgijnebgchkenaaGreatDoor.TableB Go.Proofs.YtgijnebgchkenaaGreatDoor.TableI Go.Proofs.YtgijnebgchkenaaGreatDoor.Table Go.Proofs.YtgijnebgchkenaaGreatDoor.Oracle


/-! ### Letters -/
def letters : ByteArray := ⟨#[48, 49, 50, 51, 52, 53, 54, 55, 56, 57, 97, 98, 99, 100, 101, 102, 103, 104, 105, 106, 107, 108, 109, 110, 111, 112, 113, 114, 115, 116, 117, 118, 119, 120, 121, 122, 65, 66, 67, 68, 69, 70, 71, 72, 73, 74, 75, 76, 77, 78, 79, 80, 81, 82, 83, 84, 85, 86, 87, 88, 89, 90]⟩
def letter (i : Nat) : ByteArray := letters.extract i (i + 1)
theorem letters_all : ((List.range 62).all fun i => (letter i).size == 1 && (List.range 62).all fun j => i == j || !((letter i).data == (letter j).data)) = true := by kernel_rfl
theorem letter_size {i : Nat} (h : i < 62) : (letter i).size = 1 := by
  have := List.all_eq_true.1 letters_all i (List.mem_range.2 h)
  simp only [Bool.and_eq_true, beq_iff_eq] at this
  exact this.1
theorem letter_inj {i j : Nat} (hi : i < 62) (hj : j < 62) (h : letter i = letter j) : i = j := by
  have := List.all_eq_true.1 letters_all i (List.mem_range.2 hi)
  rw [Bool.and_eq_true] at this
  have := List.all_eq_true.1 this.2 j (List.mem_range.2 hj)
  rw [h] at this
  simpa using this
/-- A key of these laws. -/
def isLetter (key : ByteArray) : Prop := ∃ i, i < 62 ∧ key = letter i

theorem mod_ok (n m : Int) (hn : -9223372036854775808 ≤ n ∧ n ≤ 9223372036854775807) (hm : 0 < m ∧ m ≤ 1000000) : FnOk Tryz.prog 30 #[.int .i64 n, .int .i64 m] [] (fun v L => v = .int .i64 (n % m) ∧ L = []) := by
  have h1 := Int.emod_nonneg n (show m ≠ 0 by omega)
  have h2 := Int.emod_lt_of_pos n hm.1
  have h3 := Int.tmod_eq_emod (a := n) (b := m)
  have h4 : n.tmod m = n % m ∨ n.tmod m = n % m - m := by split at h3 <;> omega
  have hm0 : m ≠ 0 := by omega
  refine fn_intro en30 Tryz.func30 rfl rfl rfl fun Fr w0 => t_nm ?_
  refine sr <| asg rfl rfl <| lz <| mv rfl rfl <| mv rfl rfl <| l_q rfl (qrem rfl rfl) ?_
  refine asg rfl rfl <| lc <| t_seq <| sr <| mv rfl rfl <| l_q rfl (qi rfl rfl (b_lss ·)) <| lc <| t_if rfl (fun z => ?_) fun z => ?_
  · refine t_region <| mv rfl rfl <| mv rfl rfl <| l_q rfl (qadd rfl rfl) ?_
    refine asg rfl rfl <| lz <| mv rfl rfl <| asg rfl rfl <| lc <| rt <| fr1 rfl ([]) (.tmp rfl) ?_
    exact ⟨by congr 1; omega, rfl⟩
  · refine t_skip <| nz <| mv rfl rfl <| asg rfl rfl <| lc <| rt <| fr1 rfl ([]) (.tmp rfl) ?_
    exact ⟨by congr 1; omega, rfl⟩

theorem key_ok (n : Int) (hn : -9223372036854775808 ≤ n ∧ n ≤ 9223372036854775807) : FnOk Tryz.prog 79 #[.int .i64 n] [] (fun v L => v = .string (letter (n % 62).toNat) ∧ L = []) := by
  have h1 := Int.emod_nonneg n (show (62 : Int) ≠ 0 by omega)
  have h2 := Int.emod_lt_of_pos n (show (0 : Int) < 62 by omega)
  refine fn_intro en79 Tryz.func79 rfl rfl rfl fun Fr w0 => t_nm ?_
  refine sr <| asg rfl rfl <| lz <| mv rfl rfl <| lc1 rfl rfl rfl (mod_ok _ _ hn (by decide)) ?_
  refine asg rfl rfl <| lz <| mv rfl rfl <| mv rfl rfl <| l_q rfl (qadd rfl rfl) ?_
  apply l_q rfl
  · refine QV.to (v' := .string (letter (n % 62).toNat)) (q_sliceS_lh (s := letters) rfl rfl rfl Tryz.underlying9 ⟨by omega, by omega, by show _ ≤ (62 : Int); omega⟩) (by rw [show (n % 62 + 1).toNat = (n % 62).toNat + 1 by omega]; rfl)
  exact asg rfl rfl <| lc <| rt <| fr1 rfl ([]) (.tmp rfl) ⟨rfl, rfl⟩

/-- The birth of a number. -/
def birthI (n : Int) : Int := if n < 0 then -(n + 1) else n
theorem birth_bnd {n : Int} (hn : -9223372036854775808 ≤ n ∧ n ≤ 9223372036854775807) : 0 ≤ birthI n ∧ birthI n < 9223372036854775808 := by unfold birthI; split <;> omega
theorem birth_ok (n : Int) (hn : -9223372036854775808 ≤ n ∧ n ≤ 9223372036854775807) : FnOk Tryz.prog 80 #[.int .i64 n] [] (fun v L => v = .int .i64 (birthI n) ∧ L = []) := by
  refine fn_intro en80 Tryz.func80 rfl rfl rfl fun Fr w0 => t_nm ?_
  refine sr <| asg rfl rfl <| lc <| t_seq <| sr <| mv rfl rfl <| l_q rfl (qi rfl rfl (b_lss ·)) <| lc <| t_if rfl (fun z => ?_) fun z => ?_
  · refine sr <| mv rfl rfl <| l_q rfl (qadd rfl rfl) ?_
    refine l_q rfl (q_un rfl (u_neg ·)) <| asg rfl rfl <| lc <| rt <| fr1 rfl ([]) (.tmp rfl) ?_
    exact ⟨by unfold birthI; rw [if_pos z, wrap_i64 (by omega)]; congr 1; omega, rfl⟩
  · refine t_skip <| nz <| mv rfl rfl <| asg rfl rfl <| lc <| rt <| fr1 rfl ([]) (.tmp rfl) ?_
    exact ⟨by unfold birthI; rw [if_neg z], rfl⟩

/-! ### The arena's and the table's small ones -/
theorem Size_ok (pa : Nat) (s : ArS) (off c : Int) (hm : (off, c) ∈ s.bl) : FnOk Tryz.prog 81 #[.pointer (some ⟨pa, 0, none⟩), .int .i64 off] [arenaH pa s] (fun v L => v = .tuple #[.int .i64 c, .int .i64 0] ∧ L = [arenaH pa s]) := by
  refine fn_intro en81 Tryz.func81 rfl rfl rfl fun Fr w0 => t_nm ?_
  refine arena_open fun x hx => ?_
  refine t_norm fun M hM => ?_
  simp only [List.cons_append, List.nil_append] at hM
  subst M
  have hlk := hx.2.2.2.1.1 _ hm
  dsimp only at hlk
  refine sr <| asg rfl rfl <| asg rfl rfl <| lz <| mv rfl rfl <| l_q rfl (q_nilCheck rfl) <| l_q rfl (qfa 5 rfl yU128 rfl rfl yS125) <| l_q rfl (qld rfl yA125) ?_
  refine mv rfl rfl ?_
  apply l_q rfl
  · refine QV.to (v' := .tuple #[.int .i64 c, .bool true]) (q_lookup2 keyInt rfl rfl Tryz.underlying125 Tryz.underlying3 yZ3 (by exact tk)) (by rw [hlk]; rfl)
  refine mv rfl rfl <| l_q rfl (q_extractL rfl ga) ?_
  refine l_q rfl (q_extractL rfl ga) ?_
  refine asg rfl rfl <| asg rfl rfl <| lc <| t_seq <| sr <| mv rfl rfl <| l_q rfl (q_un rfl (u_not ·)) <| lc <| t_if rfl (fun z => ?_) fun z => ?_
  · cases z
  · refine t_skip <| nz <| mv rfl rfl <| asg rfl rfl <| asg rfl rfl <| lc <| rt ?_
    apply f_ret (.inl rfl) ([arenaH pa s])
    · apply res2 rfl
      · exact .tmp rfl
      · exact .tmp rfl
    · exact ⟨rfl, rfl⟩
    · refine arena_close hx ?_; dsimp only [arP]; (exact en)
theorem TOff_ok (pa : Nat) (l : Lay) (off : Int) : FnOk Tryz.prog 12 #[.agg #[.pointer (some ⟨pa, 0, none⟩), .int .i64 l.key, .int .i64 l.elem, .int .i64 l.ka, .int .i64 l.ea, .int .i64 l.cap, .int .i64 l.eo, .int .i64 l.bo, .int .i64 l.slot, .int .i64 l.group, .int .i64 off]] [] (fun v L => v = .int .i64 off ∧ L = []) := by
  refine fn_intro en12 Tryz.func12 rfl rfl rfl fun Fr w0 => t_nm ?_
  refine sr <| o_boxA rfl rfl fun b1 => asg rfl rfl <| lz <| l_q rfl (qfa 10 rfl yU34 rfl rfl yS3) <| l_q rfl (qld rfl yA3) ?_
  exact asg rfl rfl <| lc <| rt <| fr1 rfl ([]) (.tmp rfl) ⟨rfl, rfl⟩
theorem TArena_ok (pa : Nat) (l : Lay) (off : Int) : FnOk Tryz.prog 77 #[.agg #[.pointer (some ⟨pa, 0, none⟩), .int .i64 l.key, .int .i64 l.elem, .int .i64 l.ka, .int .i64 l.ea, .int .i64 l.cap, .int .i64 l.eo, .int .i64 l.bo, .int .i64 l.slot, .int .i64 l.group, .int .i64 off]] [] (fun v L => v = .pointer (some ⟨pa, 0, none⟩) ∧ L = []) := by
  refine fn_intro en77 Tryz.func77 rfl rfl rfl fun Fr w0 => t_nm ?_
  refine sr <| o_boxA rfl rfl fun b1 => asg rfl rfl <| lz <| l_q rfl (qfa 0 rfl yU34 rfl rfl yS30) <| l_q rfl (qld rfl yA30) ?_
  exact asg rfl rfl <| lc <| rt <| fr1 rfl ([]) (.tmp rfl) ⟨rfl, rfl⟩
theorem TLayout_ok (pa : Nat) (l : Lay) (off : Int) : FnOk Tryz.prog 34 #[.agg #[.pointer (some ⟨pa, 0, none⟩), .int .i64 l.key, .int .i64 l.elem, .int .i64 l.ka, .int .i64 l.ea, .int .i64 l.cap, .int .i64 l.eo, .int .i64 l.bo, .int .i64 l.slot, .int .i64 l.group, .int .i64 off]] [] (fun v L => v = .agg l.cells ∧ L = []) := by
  refine fn_intro en34 Tryz.func34 rfl rfl rfl fun Fr w0 => t_nm ?_
  refine sr <| o_boxA rfl rfl fun b1 => o_allocA rfl yZ32 fun b2 => lz <| l_q rfl (qfa 1 rfl yU34 rfl rfl yS32) <| l_q rfl (qlda rfl yA32 yS32) ?_
  refine sta rfl rfl rfl yS32 rfl rfl ?_
  refine lc <| rt ?_
  apply f_ret (.inl rfl) ([])
  · apply res1 rfl
    · apply Rv.agg rfl
      · exact tk
      · exact run_loadAll yA32 yS32 rfl
  · exact ⟨rfl, rfl⟩
  · exact en
end Go.Proofs.YtgijnebgchkenaaGreatDoor.Grow
end
section
/- A dead table's answers; table.Free. -/
set_option linter.unusedVariables false
set_option linter.unusedSimpArgs false
set_option maxRecDepth 100000
namespace Go.Proofs.YtgijnebgchkenaaGreatDoor.Table
open Go.RowKit Go.Proofs Go.Proofs.YtgijnebgchkenaaGreatDoor.Eng Go.Proofs.YtgijnebgchkenaaGreatDoor.Ty Go.Proofs.YtgijnebgchkenaaGreatDoor.Bits Go.Proofs.YtgijnebgchkenaaGreatDoor.Mem Go.Proofs.YtgijnebgchkenaaGreatDoor.Search Go.Proofs.YtgijnebgchkenaaGreatDoor.Arena Go.Proofs.YtgijnebgchkenaaGreatDoor.CtrlB Go.Proofs.YtgijnebgchkenaaGreatDoor.Ctrl Go.Proofs.YtgijnebgchkenaaGreatDoor.Layout Go.Proofs.YtgijnebgchkenaaGreatDoor.GroupB Go.Proofs.YtgijnebgchkenaaGreatDoor.Group Go.Proofs.YtgijnebgchkenaaGreatDoor.TableB

section
variable (pa : Nat) (off : Nat) (s : ArS) (l : Lay) (hg : ¬ goodP s (off : Nat) 8) (hne : s.all ≠ []) (ho : off ≤ 1000000000)
include hg hne ho
end
/-- Both its blocks given back. -/
theorem TFree_ok (pa off go n e : Nat) (s : ArS) (l : Lay) (T : Tb) (hP : TabP s off go l n e T) (c1 c2 : Int) (h1 : (((off : Nat) : Int), c1) ∈ s.bl) (h2 : (((go : Nat) : Int), c2) ∈ s.bl) :
    FnOk Tryz.prog 14 #[.agg #[.pointer (some ⟨pa, 0, none⟩), .int .i64 l.key, .int .i64 l.elem, .int .i64 l.ka, .int .i64 l.ea, .int .i64 l.cap, .int .i64 l.eo, .int .i64 l.bo, .int .i64 l.slot, .int .i64 l.group, .int .i64 (off : Nat)]] [arenaH pa s] (fun v L => v = .int .i64 0 ∧ L = [arenaH pa (s.gives [((off : Nat) : Int), ((go : Nat) : Int)])]) := by
  have hdj := hP.dj
  have hn8 := hP.n0
  have hgn : 0 < n * gN l := Nat.mul_pos hn8.1 (by have := (layN hP.hl).g_eq; omega)
  refine fn_intro en14 Tryz.func14 rfl rfl rfl fun Fr w0 => t_nm ?_
  refine sr <| o_boxA rfl rfl fun b1 => asg rfl rfl <| lz <| l_q rfl (qlda rfl yA34 yS34) ?_
  refine lc1 rfl rfl rfl (StatP_ok pa off go n e s l T hP) ?_
  refine mv rfl rfl <| l_q rfl (q_extractL rfl ga) ?_
  refine l_q rfl (q_extractL rfl ga) ?_
  refine o_allocA rfl yZ47 fun b3 => sta rfl rfl rfl yS47 rfl rfl ?_
  refine asg rfl rfl <| lc <| t_seq <| sr <| mv rfl rfl <| l_q rfl (qi rfl rfl (b_neq ·)) <| lc <| t_if rfl (fun z => ?_) fun z => ?_
  · exact absurd rfl z
  · refine t_skip <| nz <| l_q rfl (qfa 0 rfl yU34 rfl rfl yS30) <| l_q rfl (qld rfl yA30) ?_
    refine l_q rfl (qfa 10 rfl yU34 rfl rfl yS3) <| l_q rfl (qld rfl yA3) ?_
    refine l_q rfl (qfa 7 rfl yU47 rfl rfl yS3) <| l_q rfl (qld rfl yA3) ?_
    refine o_buildSlice1 [_, _] rfl rfl yU22 yS3 yZ3 rfl rfl rfl rfl (fun b19 => ?_)
    refine lc1 rfl rfl rfl (Free2_ok pa s b19 ((off : Nat) : Int) ((go : Nat) : Int) (by omega) ⟨_, h1⟩ ⟨_, h2⟩) ?_
    exact asg rfl rfl <| lc <| rt <| fr1 rfl ([arenaH pa (s.gives [((off : Nat) : Int), ((go : Nat) : Int)])]) (.tmp rfl) ⟨rfl, rfl⟩
end Go.Proofs.YtgijnebgchkenaaGreatDoor.Table
end
