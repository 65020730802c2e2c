/- The contract of larderlaw09.fixed: the document's example of a split. -/
import Derived.Test.YtgijnebgchkenaaGreatDoorGrowC
import Derived.Test.YtgijnebgchkenaaGreatDoorGrowS
set_option linter.unusedVariables false
set_option linter.unusedSimpArgs false
set_option maxRecDepth 100000
namespace Go.Proofs.YtgijnebgchkenaaGreatDoor.Grow
open Go.RowKit Go.Proofs Go.Proofs.YtgijnebgchkenaaGreatDoor.Eng Go.Proofs.YtgijnebgchkenaaGreatDoor.Ty Go.Proofs.YtgijnebgchkenaaGreatDoor.Bits Go.Proofs.YtgijnebgchkenaaGreatDoor.Mem Go.Proofs.YtgijnebgchkenaaGreatDoor.Search Go.Proofs.YtgijnebgchkenaaGreatDoor.Arena Go.Proofs.YtgijnebgchkenaaGreatDoor.CtrlB Go.Proofs.YtgijnebgchkenaaGreatDoor.Ctrl Go.Proofs.YtgijnebgchkenaaGreatDoor.Layout Go.Proofs.YtgijnebgchkenaaGreatDoor.GroupB Go.Proofs.YtgijnebgchkenaaGreatDoor.Group Go.Proofs.YtgijnebgchkenaaGreatDoor.Probe Go.Proofs.YtgijnebgchkenaaGreatDoor.TableB Go.Proofs.YtgijnebgchkenaaGreatDoor.TableI Go.Proofs.YtgijnebgchkenaaGreatDoor.Table Go.Proofs.YtgijnebgchkenaaGreatDoor.Bench Go.Proofs.YtgijnebgchkenaaGreatDoor.Cells Go.Proofs.YtgijnebgchkenaaGreatDoor.Refill Go.Proofs.YtgijnebgchkenaaGreatDoor.Oracle Go.Proofs.YtgijnebgchkenaaGreatDoor.Ref03

def l16 : Lay := ⟨1, 0, 1, 1, 16⟩
theorem l16_ok : l16.err = 0 := by kernel_rfl
theorem gN16 : gN l16 = 136 := by kernel_rfl
theorem pt_cell {b o : Nat} {cs : Array Value} {t : TypeId} {r : Nat × Nat} {v : Value} (hv : cs[o]? = some v) : CellAt (pt b (.cells cs t r)) ⟨b, o, none⟩ v := fun w hs => by
  have := pt_block hs
  simp [World.cell?, this, hv]
theorem Parse16_ok (b : Nat) : FnOk Tryz.prog 55 #[.slice (some ⟨b, 0, none⟩) 5 5] [pt b (.cells #[.int .i64 1, .int .i64 0, .int .i64 1, .int .i64 1, .int .i64 16] 3 (0, 0))]
    (fun v L => v = .tuple #[.agg #[.int .i64 l16.key, .int .i64 l16.elem, .int .i64 l16.ka, .int .i64 l16.ea, .int .i64 l16.cap, .int .i64 l16.eo, .int .i64 l16.bo, .int .i64 l16.slot, .int .i64 l16.group], .int .i64 0] ∧ L = [pt b (.cells #[.int .i64 1, .int .i64 0, .int .i64 1, .int .i64 1, .int .i64 16] 3 (0, 0))]) := by
  refine FnOk.mono (Ref03.Parse_ok (pt b (.cells #[.int .i64 1, .int .i64 0, .int .i64 1, .int .i64 1, .int .i64 16] 3 (0, 0))) (.slice (some ⟨b, 0, none⟩) 5 5) [1, 0, 1, 1, 16] ⟨some ⟨b, 0, none⟩, 5, rfl, fun _ => ⟨b, 0, rfl, fun i x hx => pt_cell ?_⟩⟩) fun v L h => ?_
  · rw [Nat.zero_add]
    match i, hx with
    | 0, hx | 1, hx | 2, hx | 3, hx | 4, hx => cases hx; rfl
    | i + 5, hx => simp at hx
  · obtain ⟨rfl, h⟩ := h
    rcases h with ⟨_, _, rfl⟩ | ⟨h, _⟩
    · exact ⟨rfl, rfl⟩
    · exact absurd (by kernel_rfl) h
def keyA : ByteArray := ⟨#[97]⟩
def keyB : ByteArray := ⟨#[98]⟩
def osAB : List (ByteArray × Int) := [(keyA, 0), (keyB, 9223372036854775808)]
/-- The hash of the example. -/
def hAB : ByteArray → Int := hashF (mapO osAB) 9
theorem hAB_a : hashF (mapO osAB) 9 keyA = 0 := by kernel_rfl
theorem hAB_b : hashF (mapO osAB) 9 keyB = 9223372036854775808 := by kernel_rfl
theorem goodAB : goodO osAB := by
  refine ⟨by decide, fun i o ho => ?_⟩
  match i, ho with
  | 0, ho => cases ho; exact ⟨by decide, by decide, fun j p hj => absurd hj (Nat.not_lt_zero _)⟩
  | 1, ho =>
    cases ho
    refine ⟨by decide, by decide, fun j p hj hp => ?_⟩
    obtain rfl : j = 0 := by omega
    cases hp
    exact fun e => absurd (congrArg ByteArray.data e) (by decide)
  | i + 2, ho => simp [osAB] at ho
theorem okAB : OverOk (mapO osAB) := mapO_ok fun o ho => by
  simp only [osAB, List.mem_cons, List.not_mem_nil, or_false] at ho
  rcases ho with rfl | rfl <;> decide
/-- The table with one key, with two. -/
def tA : Tb := (putT 2 (newT 2 0) 0 keyA ⟨#[]⟩ 3).2
def tAB : Tb := (putT 2 tA 9223372036854775808 keyB ⟨#[]⟩ 4).2
theorem outA : (putT 2 (newT 2 0) 0 keyA ⟨#[]⟩ 3).1 = 2 := by kernel_rfl
theorem outB : (putT 2 tA 9223372036854775808 keyB ⟨#[]⟩ 4).1 = 2 := by kernel_rfl
theorem ltA : LT 2 (hashF (mapO osAB) 9) tA := by
  have := ((LT.new (by decide : 0 < 2) (hashF (mapO osAB) 9) 0).puts (key := keyA) ⟨10, by decide, by kernel_rfl⟩ (e := 1) rfl ⟨#[]⟩ 3).1
  rw [hAB_a] at this
  exact this
theorem ltAB : LT 2 (hashF (mapO osAB) 9) tAB := by
  have := (ltA.puts (key := keyB) ⟨11, by decide, by kernel_rfl⟩ (e := 1) rfl ⟨#[]⟩ 4).1
  rw [hAB_b] at this
  exact this
theorem lowA : (fillT 2 (hashF (mapO osAB) 9) (side (hashF (mapO osAB) 9) tAB.depth tAB.cells 0) (tAB.depth + 1) (8 * 2)).cells 0 = .full 0 keyA ⟨#[]⟩ 3 := by kernel_rfl
theorem highB : (fillT 2 (hashF (mapO osAB) 9) (side (hashF (mapO osAB) 9) tAB.depth tAB.cells 1) (tAB.depth + 1) (8 * 2)).cells 0 = .full 0 keyB ⟨#[]⟩ 4 := by kernel_rfl
theorem clsAB : 64 + classI ((2 * gN l16 : Nat) : Int) + (64 + classI ((2 * gN l16 : Nat) : Int)) + (64 + classI ((2 * gN l16 : Nat) : Int)) ≤ 4096 ∧ 0 ≤ classI ((2 * gN l16 : Nat) : Int) := by rw [gN16]; decide
theorem over_ab (b : Nat) : OversAt (pt b (.cells #[.string ⟨#[97]⟩, .int .u64 0, .string ⟨#[98]⟩, .int .u64 9223372036854775808] 152 (0, 0))) (.slice (some ⟨b, 0, none⟩) 2 2) osAB :=
  ⟨some ⟨b, 0, none⟩, 2, rfl, fun _ => ⟨b, 0, rfl, fun i t ht j x hx => by
    have hi : i < 2 := (List.getElem?_eq_some_iff.1 ht).1
    have hj : j < 2 := (List.getElem?_eq_some_iff.1 hx).1
    refine pt_cell ?_
    rw [Nat.zero_add]
    match i, j, hi, hj, ht, hx with
    | 0, 0, _, _, ht, hx => cases ht; cases hx; rfl
    | 0, 1, _, _, ht, hx => cases ht; cases hx; rfl
    | 1, 0, _, _, ht, hx => cases ht; cases hx; rfl
    | 1, 1, _, _, ht, hx => cases ht; cases hx; rfl⟩⟩
theorem putA_ok (G : HP) (hGT : TabOk G) (pa off go : Nat) (s : ArS) (hP : TabP s off go l16 2 1 (newT 2 0)) :
    FnOk Tryz.prog 18 #[.agg #[.pointer (some ⟨pa, 0, none⟩), .int .i64 l16.key, .int .i64 l16.elem, .int .i64 l16.ka, .int .i64 l16.ea, .int .i64 l16.cap, .int .i64 l16.eo, .int .i64 l16.bo, .int .i64 l16.slot, .int .i64 l16.group, .int .i64 (off : Nat)], .int .u64 0, .string ⟨#[97]⟩, .string ⟨#[]⟩, .int .i64 3] [G, arenaH pa s] (fun v L => ∃ s', v = .tuple #[.int .i64 2, .int .i64 0] ∧ L = [G, arenaH pa s'] ∧ TabP s' off go l16 2 1 tA ∧ SameBut s s' off go (2 * gN l16)) := by
  refine FnOk.mono (Put_ok G hGT pa off go 2 1 s l16 (newT 2 0) hP 0 (by decide) keyA ⟨#[]⟩ (by kernel_rfl) (by kernel_rfl) 3 (by decide) (by decide) (by decide)) fun v L h => ?_
  obtain ⟨s', rfl, rfl, h1, h2⟩ := h
  exact ⟨s', by rw [outA], rfl, h1, h2⟩
theorem putB_ok (G : HP) (hGT : TabOk G) (pa off go : Nat) (s : ArS) (hP : TabP s off go l16 2 1 tA) :
    FnOk Tryz.prog 18 #[.agg #[.pointer (some ⟨pa, 0, none⟩), .int .i64 l16.key, .int .i64 l16.elem, .int .i64 l16.ka, .int .i64 l16.ea, .int .i64 l16.cap, .int .i64 l16.eo, .int .i64 l16.bo, .int .i64 l16.slot, .int .i64 l16.group, .int .i64 (off : Nat)], .int .u64 9223372036854775808, .string ⟨#[98]⟩, .string ⟨#[]⟩, .int .i64 4] [G, arenaH pa s] (fun v L => ∃ s', v = .tuple #[.int .i64 2, .int .i64 0] ∧ L = [G, arenaH pa s'] ∧ TabP s' off go l16 2 1 tAB ∧ SameBut s s' off go (2 * gN l16)) := by
  have hu : tA.used = 1 := by kernel_rfl
  have hl : tA.left = 13 := by kernel_rfl
  refine FnOk.mono (Put_ok G hGT pa off go 2 1 s l16 tA hP 9223372036854775808 (by decide) keyB ⟨#[]⟩ (by kernel_rfl) (by kernel_rfl) 4 (by decide) (by rw [hu]; decide) (by rw [hl]; decide)) fun v L h => ?_
  obtain ⟨s', rfl, rfl, h1, h2⟩ := h
  exact ⟨s', by rw [outB], rfl, h1, h2⟩
theorem cell0_ok (pa off go n e : Nat) (s : ArS) (l : Lay) (T : Tb) (hP : TabP s off go l n e T) (c : Cell) (hc : T.cells 0 = c) :
    FnOk Tryz.prog 20 #[.agg #[.pointer (some ⟨pa, 0, none⟩), .int .i64 l.key, .int .i64 l.elem, .int .i64 l.ka, .int .i64 l.ea, .int .i64 l.cap, .int .i64 l.eo, .int .i64 l.bo, .int .i64 l.slot, .int .i64 l.group, .int .i64 (off : Nat)], .int .i64 0] [arenaH pa s] (fun v L => v = .tuple #[.agg #[.int .i64 c.kind, .int .i64 c.tagI, .string c.keyS, .string c.elemS, .int .i64 c.birthI], .int .i64 0] ∧ L = [arenaH pa s]) := by
  subst hc
  exact Cell_okP pa off go n e s l T hP 0 (by have := hP.n0; omega)
theorem depAB : tAB.depth = 0 := by kernel_rfl
theorem fixed_ok (G : HP) (hGT : TabOk G) (hGO : OddOk G) : FnOk Tryz.prog 28 #[] [G] (fun v L => v = .bool true ∧ L = [G]) := by
  obtain ⟨hfit, hc1⟩ := clsAB
  have e1 : (ArS.new 4096).live = 0 := rfl
  have e2 : (ArS.new 4096).limit = 4096 := rfl
  have hsm : ((2 * gN l16 : Nat) : Int) ≤ 1048576 := by rw [gN16]; decide
  obtain ⟨o0, ho0⟩ : ∃ o, (ArS.new 4096).at 64 = o := ⟨_, rfl⟩
  obtain ⟨g0, hg0⟩ : ∃ g, ((ArS.new 4096).take 64).at (classI ((2 * gN l16 : Nat) : Int)) = g := ⟨_, rfl⟩
  refine fn_intro en28 Tryz.func28 rfl rfl rfl fun Fr w0 => t_nm ?_
  refine sr <| asg rfl rfl <| lz <| lcf rfl rfl rfl (Arena.New_ok 4096 (by decide)) ?_
  rintro v L' ⟨pa, rfl, rfl⟩
  refine l_nm ?_
  refine mv rfl rfl <| l_q rfl (q_extractL rfl ga) ?_
  refine l_q rfl (q_extractL rfl ga) ?_
  refine asg rfl rfl <| asg rfl rfl <| lz ?_
  apply l_q rfl
  · apply q_buildS rfl yP152 yZ152
    · apply FillR.one
      · repeat (first | exact PlAt.here | apply PlAt.there)
      · rfl
      · exact sa
      apply FillR.one
      · repeat (first | exact PlAt.here | apply PlAt.there)
      · rfl
      · exact sa
      exact FillR.nil
  apply l_q rfl
  · apply q_buildS rfl yP152 yZ152
    · apply FillR.one
      · repeat (first | exact PlAt.here | apply PlAt.there)
      · rfl
      · exact sa
      apply FillR.one
      · repeat (first | exact PlAt.here | apply PlAt.there)
      · rfl
      · exact sa
      exact FillR.nil
  refine o_buildSlice (us := [_, _]) rfl rfl yU87 yS152 yZ152 rfl rfl rfl rfl rfl (fun b22 => ?_)
  rw [show ([Value.agg #[.string ⟨#[97]⟩, .int .u64 0], .agg #[.string ⟨#[98]⟩, .int .u64 9223372036854775808]].flatMap fun x => x.cells.toList).toArray = #[.string ⟨#[97]⟩, .int .u64 0, .string ⟨#[98]⟩, .int .u64 9223372036854775808] from rfl]
  refine lcf rfl rfl rfl (oNew_ok (pt b22 (.cells #[.string ⟨#[97]⟩, .int .u64 0, .string ⟨#[98]⟩, .int .u64 9223372036854775808] 152 (0, 0))) (.slice (some ⟨b22, 0, none⟩) 2 2) osAB (over_ab b22) goodAB) ?_
  rintro v L' ⟨po, bm, rfl, rfl⟩
  refine l_nm ?_
  refine mv rfl rfl <| l_q rfl (q_extractL rfl ga) ?_
  refine l_q rfl (q_extractL rfl ga) ?_
  refine asg rfl rfl <| asg rfl rfl <| lz ?_
  refine o_buildSlice1 [_, _, _, _, _] rfl rfl yU22 yS3 yZ3 rfl rfl rfl rfl (fun b27 => ?_)
  refine lc1 rfl rfl rfl (Parse16_ok b27) ?_
  refine mv rfl rfl <| l_q rfl (q_extractL rfl ga) ?_
  refine l_q rfl (q_extractL rfl ga) ?_
  refine o_allocA rfl yZ32 fun b5 => sta rfl rfl rfl yS32 rfl rfl ?_
  refine asg rfl rfl <| lc <| t_seq <| sr <| mv rfl rfl <| l_q rfl (qi rfl rfl (b_neq ·)) <| mv rfl rfl <| l_pt (t := 33) rfl (fun c1 => ?_) fun c1 => ?_
  · exact absurd rfl c1
  · refine l_on rfl rfl <| mv rfl rfl <| l_on rfl rfl <| l_q rfl (qi rfl rfl (b_neq ·)) <| l_q rfl (q_pk rfl rfl) <| mv rfl rfl <| l_pt (t := 37) rfl (fun c2 => ?_) fun c2 => ?_
    · exact absurd rfl c2
    · refine l_on rfl rfl <| mv rfl rfl <| l_on rfl rfl <| l_q rfl (q_bin rfl rfl (g_pointer ·) (b_eqlP0 · yU30)) <| l_q rfl (q_pk rfl rfl) <| mv rfl rfl <| l_pt (t := 41) rfl (fun c3 => ?_) fun c3 => ?_
      · simp at c3
      · refine l_on rfl rfl <| mv rfl rfl <| l_on rfl rfl <| l_q rfl (q_bin rfl rfl (g_pointer ·) (b_eqlP0 · yU74)) <| l_q rfl (q_pk rfl rfl) <| lc <| t_if rfl (fun c4 => ?_) fun c4 => ?_
        · simp at c4
        · refine t_skip <| nz <| mv rfl rfl <| l_q rfl (qlda rfl yA32 yS32) ?_
          refine lcf rfl rfl rfl (NewFit_ok pa 2 1 (ArS.new 4096) l16 16 0 l16_ok (by decide) rfl rfl (by decide) hsm (by omega) o0 g0 ho0 hg0) ?_
          rintro v L' ⟨s1, rfl, rfl, hT0, hN0⟩
          refine l_nm ?_
          refine mv rfl rfl <| l_q rfl (q_extractL rfl ga) ?_
          refine l_q rfl (q_extractL rfl ga) ?_
          refine o_allocA rfl yZ34 fun b7 => sta rfl rfl rfl yS34 rfl rfl ?_
          refine asg rfl rfl <| lc <| t_seq <| sr <| mv rfl rfl <| l_q rfl (qi rfl rfl (b_neq ·)) <| lc <| t_if rfl (fun c5 => ?_) fun c5 => ?_
          · exact absurd rfl c5
          · refine t_skip <| nz <| l_q rfl (qlda rfl yA34 yS34) ?_
            refine lcf rfl rfl rfl (putA_ok G hGT pa o0 g0 s1 hT0) ?_
            rintro v L' ⟨s2, rfl, rfl, hT1, hS1⟩
            refine l_nm ?_
            refine mv rfl rfl <| l_q rfl (q_extractL rfl ga) ?_
            refine l_q rfl (q_extractL rfl ga) ?_
            refine asg rfl rfl <| asg rfl rfl <| lz <| l_q rfl (qlda rfl yA34 yS34) ?_
            refine lcf rfl rfl rfl (putB_ok G hGT pa o0 g0 s2 hT1) ?_
            rintro v L' ⟨s3, rfl, rfl, hT2, hS2⟩
            refine l_nm ?_
            refine mv rfl rfl <| l_q rfl (q_extractL rfl ga) ?_
            refine l_q rfl (q_extractL rfl ga) ?_
            refine asg rfl rfl <| asg rfl rfl <| lz <| l_q rfl (qlda rfl yA34 yS34) ?_
            refine mv rfl rfl ?_
            have hl3 : s3.live = s1.live := hS2.live.trans hS1.live
            obtain ⟨o1, ho1⟩ : ∃ o, s3.at 64 = o := ⟨_, rfl⟩
            obtain ⟨g1, hg1⟩ : ∃ g, (s3.take 64).at (classI ((2 * gN l16 : Nat) : Int)) = g := ⟨_, rfl⟩
            have hl1 := hN0.live
            have hi3 : s3.limit = 4096 := hS2.limit.trans (hS1.limit.trans hN0.limit)
            refine lcf rfl rfl rfl (Split_ok G hGT hGO pa o0 g0 po bm 2 1 s3 l16 tAB (mapO osAB) okAB 9 (by decide) hT2 (by rw [depAB]; decide) ltAB hsm (by omega) o1 g1 ho1 hg1) ?_
            rintro v L' ⟨s4, s5, o2, g2, U1, U2, L1, L2, rfl, rfl, ho2, hg2, hN4, hO, hA1, hA2, hF1, hF2, _, _, _, _⟩
            refine l_nm ?_
            refine mv rfl rfl <| l_q rfl (q_extractL rfl ga) ?_
            refine l_q rfl (q_extractL rfl ga) ?_
            refine l_q rfl (q_extractL rfl ga) ?_
            refine o_allocA rfl yZ34 fun b10 => o_allocA rfl yZ34 fun b11 => sta rfl rfl rfl yS34 rfl rfl ?_
            refine sta rfl rfl rfl yS34 rfl rfl ?_
            refine asg rfl rfl <| lc <| t_seq <| sr <| mv rfl rfl <| l_q rfl (qi rfl rfl (b_neq ·)) <| mv rfl rfl ?_
            have hU1 : U1.cells 0 = .full 0 keyA ⟨#[]⟩ 3 := by rw [hF1.fill]; exact lowA
            have hU2 : U2.cells 0 = .full 0 keyB ⟨#[]⟩ 4 := by rw [hF2.fill]; exact highB
            refine l_pt (t := 72) rfl (fun d1 => ?_) fun d1 => ?_
            · exact absurd rfl d1
            · refine l_on rfl rfl <| mv rfl rfl <| l_on rfl rfl <| l_q rfl (qi rfl rfl (b_neq ·)) <| l_q rfl (q_pk rfl rfl) <| mv rfl rfl <| l_pt (t := 76) rfl (fun d2 => ?_) fun d2 => ?_
              · exact absurd rfl d2
              · refine l_on rfl rfl <| mv rfl rfl <| l_on rfl rfl <| l_q rfl (qi rfl rfl (b_neq ·)) <| l_q rfl (q_pk rfl rfl) <| mv rfl rfl <| l_pt (t := 80) rfl (fun d3 => ?_) fun d3 => ?_
                · exact absurd rfl d3
                · refine l_on rfl rfl <| mv rfl rfl <| l_on rfl rfl <| l_q rfl (qi rfl rfl (b_neq ·)) <| l_q rfl (q_pk rfl rfl) <| mv rfl rfl <| l_pt (t := 84) rfl (fun d4 => ?_) fun d4 => ?_
                  · exact absurd rfl d4
                  · refine l_on rfl rfl <| mv rfl rfl <| l_on rfl rfl <| l_q rfl (qi rfl rfl (b_neq ·)) <| l_q rfl (q_pk rfl rfl) <| mv rfl rfl <| l_pt (t := 88) rfl (fun d5 => ?_) fun d5 => ?_
                    · exact absurd rfl d5
                    · refine l_on rfl rfl <| l_q rfl (qlda rfl yA34 yS34) ?_
                      refine l_on rfl rfl <| lc1 rfl rfl rfl (TArena_ok pa l16 (o1 : Nat)) ?_
                      refine l_on rfl rfl <| mv rfl rfl <| l_on rfl rfl <| l_q rfl (q_bin rfl rfl (g_pointer ·) (b_neqPs · Tryz.underlying30 yS128)) <| l_q rfl (q_pk rfl rfl) <| mv rfl rfl <| l_pt (t := 94) rfl (fun d6 => ?_) fun d6 => ?_
                      · cases d6
                      · refine l_on rfl rfl <| l_q rfl (qlda rfl yA34 yS34) ?_
                        refine l_on rfl rfl <| lc1 rfl rfl rfl (TArena_ok pa l16 (o2 : Nat)) ?_
                        refine l_on rfl rfl <| mv rfl rfl <| l_on rfl rfl <| l_q rfl (q_bin rfl rfl (g_pointer ·) (b_neqPs · Tryz.underlying30 yS128)) <| l_q rfl (q_pk rfl rfl) <| lc <| t_if rfl (fun d7 => ?_) fun d7 => ?_
                        · cases d7
                        · refine t_skip <| nz <| l_q rfl (qlda rfl yA34 yS34) ?_
                          refine lc1 rfl rfl rfl (cell0_ok pa o1 g1 2 1 s5 l16 U1 hA1 _ hU1) ?_
                          refine mv rfl rfl <| l_q rfl (q_extractL rfl ga) ?_
                          refine l_q rfl (q_extractL rfl ga) ?_
                          refine o_allocA rfl yZ54 fun b13 => sta rfl rfl rfl yS54 rfl rfl ?_
                          refine asg rfl rfl <| lz <| l_q rfl (qlda rfl yA34 yS34) ?_
                          refine lc1 rfl rfl rfl (cell0_ok pa o2 g2 2 1 s5 l16 U2 hA2 _ hU2) ?_
                          refine mv rfl rfl <| l_q rfl (q_extractL rfl ga) ?_
                          refine l_q rfl (q_extractL rfl ga) ?_
                          refine o_allocA rfl yZ54 fun b14 => sta rfl rfl rfl yS54 rfl rfl ?_
                          refine asg rfl rfl <| lz <| mv rfl rfl <| l_q rfl (qi rfl rfl (b_eql ·)) <| mv rfl rfl <| l_pt (t := 112) rfl (fun y1 => ?_) fun y1 => ?_
                          · refine l_on rfl rfl <| mv rfl rfl <| l_on rfl rfl <| l_q rfl (qi rfl rfl (b_eql ·)) <| l_q rfl (q_pk rfl rfl) <| mv rfl rfl <| l_pt (t := 116) rfl (fun y2 => ?_) fun y2 => ?_
                            · refine l_on rfl rfl <| l_q rfl (qfa 2 rfl yU54 rfl rfl yS9) <| l_on rfl rfl <| l_q rfl (qld rfl yA9) ?_
                              refine l_on rfl rfl <| l_q rfl (qs rfl rfl (b_eqlS ·)) <| l_q rfl (q_pk rfl rfl) <| mv rfl rfl <| l_pt (t := 121) rfl (fun y3 => ?_) fun y3 => ?_
                              · refine l_on rfl rfl <| l_q rfl (qfa 4 rfl yU54 rfl rfl yS3) <| l_on rfl rfl <| l_q rfl (qld rfl yA3) ?_
                                refine l_on rfl rfl <| l_q rfl (qi rfl rfl (b_eql ·)) <| l_q rfl (q_pk rfl rfl) <| mv rfl rfl <| l_pt (t := 126) rfl (fun y4 => ?_) fun y4 => ?_
                                · refine l_on rfl rfl <| l_q rfl (qfa 2 rfl yU54 rfl rfl yS9) <| l_on rfl rfl <| l_q rfl (qld rfl yA9) ?_
                                  refine l_on rfl rfl <| l_q rfl (qs rfl rfl (b_eqlS ·)) <| l_q rfl (q_pk rfl rfl) <| mv rfl rfl <| l_pt (t := 131) rfl (fun y5 => ?_) fun y5 => ?_
                                  · refine l_on rfl rfl <| l_q rfl (qfa 4 rfl yU54 rfl rfl yS3) <| l_on rfl rfl <| l_q rfl (qld rfl yA3) ?_
                                    refine l_on rfl rfl <| l_q rfl (qi rfl rfl (b_eql ·)) <| l_q rfl (q_pk rfl rfl) <| mv rfl rfl <| l_pt (t := 136) rfl (fun y6 => ?_) fun y6 => ?_
                                    · refine l_on rfl rfl ?_
                                      apply l_q rfl
                                      · apply q_buildS rfl yP47 yZ47
                                        · apply FillR.one
                                          · repeat (first | exact PlAt.here | apply PlAt.there)
                                          · rfl
                                          · exact sa
                                          apply FillR.one
                                          · repeat (first | exact PlAt.here | apply PlAt.there)
                                          · rfl
                                          · exact sa
                                          exact FillR.nil
                                      refine l_on rfl rfl <| lc1 rfl rfl rfl (Choose_ok 8 16 0 0 0 0 0 32 false (by decide)) ?_
                                      refine l_on rfl rfl <| l_q rfl (qi rfl rfl (b_eql ·)) <| l_q rfl (q_pk rfl rfl) <| asg rfl rfl <| lc <| rt <| fr1 rfl ([G]) (.tmp rfl) ?_
                                      exact ⟨by rw [show chooseI 8 16 0 32 = 2 from by kernel_rfl]; rfl, rfl⟩
                                    · exact absurd rfl y6
                                  · exact absurd rfl y5
                                · exact absurd rfl y4
                              · exact absurd rfl y3
                            · exact absurd rfl y2
                          · exact absurd rfl y1
end Go.Proofs.YtgijnebgchkenaaGreatDoor.Grow
