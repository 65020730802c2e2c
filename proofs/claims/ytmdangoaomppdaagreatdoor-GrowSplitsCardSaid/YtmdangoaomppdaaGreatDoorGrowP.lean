/- Contracts of larderlaw09: picture, fresh, holds. -/
import Derived.Test.YtmdangoaomppdaaGreatDoorGrowV
set_option linter.unusedVariables false
set_option linter.unusedSimpArgs false
set_option maxRecDepth 100000
namespace Go.Proofs.YtmdangoaomppdaaGreatDoor.Grow
open Go.RowKit Go.Proofs Go.Proofs.YtmdangoaomppdaaGreatDoor.Eng Go.Proofs.YtmdangoaomppdaaGreatDoor.Ty Go.Proofs.YtmdangoaomppdaaGreatDoor.Bits Go.Proofs.YtmdangoaomppdaaGreatDoor.Mem Go.Proofs.YtmdangoaomppdaaGreatDoor.Search Go.Proofs.YtmdangoaomppdaaGreatDoor.Arena Go.Proofs.YtmdangoaomppdaaGreatDoor.CtrlB Go.Proofs.YtmdangoaomppdaaGreatDoor.Ctrl Go.Proofs.YtmdangoaomppdaaGreatDoor.Layout Go.Proofs.YtmdangoaomppdaaGreatDoor.GroupB Go.Proofs.YtmdangoaomppdaaGreatDoor.Group Go.Proofs.YtmdangoaomppdaaGreatDoor.Probe Go.Proofs.YtmdangoaomppdaaGreatDoor.TableB Go.Proofs.YtmdangoaomppdaaGreatDoor.TableI Go.Proofs.YtmdangoaomppdaaGreatDoor.Table Go.Proofs.YtmdangoaomppdaaGreatDoor.Bench Go.Proofs.YtmdangoaomppdaaGreatDoor.Cells Go.Proofs.YtmdangoaomppdaaGreatDoor.Refill Go.Proofs.YtmdangoaomppdaaGreatDoor.Oracle Go.Proofs.YtmdangoaomppdaaGreatDoor.Ref03

/-- The bytes of a table's two blocks. -/
def picS (m : Nat → Int) (off n : Nat) : ByteArray := strM m off 64 ++ strM m (off + 64) (classI ((n * gN l64 : Nat) : Int)).toNat
theorem strM_congr {m m' : Nat → Int} {o k : Nat} (h : ∀ a, o ≤ a → a < o + k → m a = m' a) : strM m o k = strM m' o k := by
  unfold strM
  congr 2
  exact List.map_congr_left fun i hi => by rw [List.mem_range] at hi; rw [h _ (by omega) (by omega)]
theorem strM_size (m : Nat → Int) (o k : Nat) : (strM m o k).size = k := by simp [strM, ByteArray.size]
theorem picture_ok (pa po off n e : Nat) (wo : Int) (s : ArS) (T : Tb) (hP : TabP s off (off + 64) l64 n e T) (hb : (((off + 64 : Nat) : Int), classI ((n * gN l64 : Nat) : Int)) ∈ s.bl) (hn : n ≤ 64) :
    FnOk Tryz.prog 10 #[.agg #[.pointer (some ⟨pa, 0, none⟩), .pointer (some ⟨po, 0, none⟩), .pointer (some ⟨pa, 0, none⟩), .int .i64 l64.key, .int .i64 l64.elem, .int .i64 l64.ka, .int .i64 l64.ea, .int .i64 l64.cap, .int .i64 l64.eo, .int .i64 l64.bo, .int .i64 l64.slot, .int .i64 l64.group, .int .i64 wo], .agg #[.pointer (some ⟨pa, 0, none⟩), .int .i64 l64.key, .int .i64 l64.elem, .int .i64 l64.ka, .int .i64 l64.ea, .int .i64 l64.cap, .int .i64 l64.eo, .int .i64 l64.bo, .int .i64 l64.slot, .int .i64 l64.group, .int .i64 (off : Nat)]] [arenaH pa s] (fun v L => v = .string (picS s.m off n) ∧ L = [arenaH pa s]) := by
  have hn8 := hP.n0
  have hcb := classI_bnd (n := ((n * gN l64 : Nat) : Int)) (by rw [gN64]; omega)
  have hcb2 := hcb.2.2 (by rw [gN64]; omega)
  have hc0 : (0 : Int) ≤ classI ((n * gN l64 : Nat) : Int) := by rw [gN64] at *; omega
  have hgg : goodP s ((off + 64 : Nat) : Int) (classI ((n * gN l64 : Nat) : Int)) := ⟨hc0, _, hb, by dsimp only; omega, by dsimp only; omega⟩
  have hz1 := strM_size s.m off 64
  have hz2 := strM_size s.m (off + 64) (classI ((n * gN l64 : Nat) : Int)).toNat
  refine fn_intro en10 Tryz.func10 rfl rfl rfl fun Fr w0 => t_nm ?_
  refine sr <| o_boxA rfl rfl fun b2 => o_boxA rfl rfl fun b3 => asg rfl rfl <| lz <| l_q rfl (qlda rfl yA32 yS32) ?_
  refine lc1 rfl rfl rfl (StatP_ok pa off (off + 64) n e s l64 T hP) ?_
  refine mv rfl rfl <| l_q rfl (q_extractL rfl ga) ?_
  refine l_q rfl (q_extractL rfl ga) ?_
  refine o_allocA rfl yZ39 fun b5 => sta rfl rfl rfl yS39 rfl rfl ?_
  refine asg rfl rfl <| lz <| l_q rfl (qfa 0 rfl yU34 rfl rfl yS27) <| l_q rfl (qld rfl yA27) ?_
  refine l_q rfl (qfa 7 rfl yU39 rfl rfl yS3) <| l_q rfl (qld rfl yA3) ?_
  refine lc1 rfl rfl rfl (Size_ok pa s _ _ hb) ?_
  refine mv rfl rfl <| l_q rfl (q_extractL rfl ga) ?_
  refine l_q rfl (q_extractL rfl ga) ?_
  refine asg rfl rfl <| asg rfl rfl <| lc <| t_seq <| t_draw mixed ?_
  apply dq 0 rfl
  · exact yq (qfa 0 rfl yU34 rfl rfl yS27)
  apply dq 1 rfl
  · exact yq (qld rfl yA27)
  apply dq 2 rfl
  · exact yq (qlda rfl yA32 yS32)
  refine d_eff1 [2] [1, 0] 3 [(29, _)] gO ⟨rfl, trivial⟩ (by kernel_rfl) (by kernel_rfl) fun Ex => ?_
  refine lc1 rfl rfl rfl (TOff_ok pa l64 (off : Nat)) ?_
  refine l_nil ?_
  apply n_d
  · refine ⟨?_, ?_, trivial⟩
    · apply ya rfl rfl; exact yq (qld rfl yA27)
    · apply ya rfl rfl; exact yq (qfa 0 rfl yU34 rfl rfl yS27)
  refine d_eff1 [1, 0] [] 4 [(28, _), (30, _)] gO ⟨rfl, rfl, trivial⟩ (by kernel_rfl) (by kernel_rfl) fun Ex => ?_
  refine lc1 rfl rfl rfl (Arena.Read_okI pa s (off : Nat) 64 off 64 rfl rfl hP.gh) ?_
  refine l_nil ?_
  apply n_d
  · exact trivial
  apply dq 5 rfl
  · exact yq (q_move rfl)
  apply dq 6 rfl
  · exact yq (q_extractL rfl ga)
  apply dq 7 rfl
  · exact yq (q_extractL rfl ga)
  refine d_eff1 [6, 5] [7] 8 [(32, _)] gO ⟨rfl, trivial⟩ (by kernel_rfl) (by kernel_rfl) fun Ex => ?_
  refine asg rfl rfl <| l_nil ?_
  apply n_d
  · refine ⟨?_, trivial⟩
    · apply ya rfl rfl; exact yq (q_extractL rfl ga)
  refine d_eff1 [7] [] 9 [(33, _)] gO ⟨rfl, trivial⟩ (by kernel_rfl) (by kernel_rfl) fun Ex => ?_
  refine asg rfl rfl <| l_nil ?_
  apply n_d
  · exact trivial
  refine d_end (by kernel_rfl) ?_
  refine nz <| l_q rfl (qfa 0 rfl yU34 rfl rfl yS27) <| l_q rfl (qld rfl yA27) ?_
  refine l_q rfl (qfa 7 rfl yU39 rfl rfl yS3) <| l_q rfl (qld rfl yA3) ?_
  refine mv rfl rfl <| lc1 rfl rfl rfl (Arena.Read_okI pa s _ _ (off + 64) (classI ((n * gN l64 : Nat) : Int)).toNat rfl (Int.toNat_of_nonneg hc0).symm hgg) ?_
  refine mv rfl rfl <| l_q rfl (q_extractL rfl ga) ?_
  refine l_q rfl (q_extractL rfl ga) ?_
  refine asg rfl rfl <| asg rfl rfl <| lc <| t_seq <| sr <| mv rfl rfl <| l_q rfl (qi rfl rfl (b_neq ·)) <| mv rfl rfl <| l_pt (t := 45) rfl (fun z1 => ?_) fun z1 => ?_
  · exact absurd rfl z1
  · refine l_on rfl rfl <| mv rfl rfl <| l_on rfl rfl <| l_q rfl (qi rfl rfl (b_neq ·)) <| l_q rfl (q_pk rfl rfl) <| mv rfl rfl <| l_pt (t := 49) rfl (fun z2 => ?_) fun z2 => ?_
    · exact absurd rfl z2
    · refine l_on rfl rfl <| mv rfl rfl <| l_on rfl rfl <| l_q rfl (qi rfl rfl (b_neq ·)) <| l_q rfl (q_pk rfl rfl) <| mv rfl rfl <| l_pt (t := 53) rfl (fun z3 => ?_) fun z3 => ?_
      · exact absurd rfl z3
      · refine l_on rfl rfl <| mv rfl rfl <| l_on rfl rfl <| l_q rfl (qi rfl rfl (b_neq ·)) <| l_q rfl (q_pk rfl rfl) <| lc <| t_if rfl (fun z4 => ?_) fun z4 => ?_
        · exact absurd rfl z4
        · refine t_skip <| nz <| mv rfl rfl <| mv rfl rfl ?_
          apply l_q rfl
          · apply qs rfl rfl; first | exact fun w => b_addS w | exact fun w => b_addS w (by omega)
          exact asg rfl rfl <| lc <| rt <| fr1 rfl ([arenaH pa s]) (.tmp rfl) ⟨rfl, rfl⟩
/-- The picture stays where none of its bytes is turned. -/
theorem picS_congr {m m' : Nat → Int} {off n : Nat} (h : ∀ a, off ≤ a → a < off + 64 → m' a = m a) (h2 : ∀ a, off + 64 ≤ a → a < off + 64 + (classI ((n * gN l64 : Nat) : Int)).toNat → m' a = m a) : picS m' off n = picS m off n := by
  unfold picS
  rw [strM_congr h, strM_congr h2]
theorem picS_ne (m : Nat → Int) (off n : Nat) : picS m off n ≠ ⟨#[]⟩ := fun h => by
  have h1 : (picS m off n).size = 0 := by rw [h]; rfl
  unfold picS at h1
  rw [ByteArray.size_append, strM_size] at h1
  omega
theorem fresh_ok (pa off n e : Nat) (s : ArS) (T : Tb) (hP : TabP s off (off + 64) l64 n e T) (slots depth : Int) (h1 : slots = 8 * (n : Int)) (h2 : T.depth = depth) (h3 : T.left = 7 * (n : Int) - T.used) (h4 : T.pins = 0) (h5 : T.next = 0) (h6 : T.kind = 2) (h7 : 0 ≤ T.used ∧ T.used ≤ 1099511627776) :
    FnOk Tryz.prog 15 #[.agg #[.pointer (some ⟨pa, 0, none⟩), .int .i64 l64.key, .int .i64 l64.elem, .int .i64 l64.ka, .int .i64 l64.ea, .int .i64 l64.cap, .int .i64 l64.eo, .int .i64 l64.bo, .int .i64 l64.slot, .int .i64 l64.group, .int .i64 (off : Nat)], .int .i64 slots, .int .i64 depth] [arenaH pa s] (fun v L => v = .bool true ∧ L = [arenaH pa s]) := by
  subst h1
  have hn8 := hP.n0
  refine fn_intro en15 Tryz.func15 rfl rfl rfl fun Fr w0 => t_nm ?_
  refine sr <| o_boxA rfl rfl fun b3 => asg rfl rfl <| lz <| l_q rfl (qlda rfl yA32 yS32) ?_
  refine lc1 rfl rfl rfl (StatP_ok pa off (off + 64) n e s l64 T hP) ?_
  refine mv rfl rfl <| l_q rfl (q_extractL rfl ga) ?_
  refine l_q rfl (q_extractL rfl ga) ?_
  refine o_allocA rfl yZ39 fun b7 => sta rfl rfl rfl yS39 rfl rfl ?_
  refine asg rfl rfl <| lz <| mv rfl rfl <| l_q rfl (qi rfl rfl (b_eql ·)) <| mv rfl rfl <| l_pt (t := 16) rfl (fun z1 => ?_) fun z1 => ?_
  · refine l_on rfl rfl <| l_q rfl (qfa 1 rfl yU39 rfl rfl yS3) <| l_on rfl rfl <| l_q rfl (qld rfl yA3) ?_
    refine l_on rfl rfl <| mv rfl rfl <| l_on rfl rfl <| l_q rfl (qi rfl rfl (b_eql ·)) <| l_q rfl (q_pk rfl rfl) <| mv rfl rfl <| l_pt (t := 22) rfl (fun z2 => ?_) fun z2 => ?_
    · refine l_on rfl rfl <| l_q rfl (qfa 3 rfl yU39 rfl rfl yS3) <| l_on rfl rfl <| l_q rfl (qld rfl yA3) ?_
      refine l_on rfl rfl <| mv rfl rfl <| l_on rfl rfl <| l_q rfl (qi rfl rfl (b_eql ·)) <| l_q rfl (q_pk rfl rfl) <| mv rfl rfl <| l_pt (t := 28) rfl (fun z3 => ?_) fun z3 => ?_
      · refine l_on rfl rfl <| l_q rfl (qfa 2 rfl yU39 rfl rfl yS3) <| l_on rfl rfl <| l_q rfl (qld rfl yA3) ?_
        refine l_on rfl rfl <| mv rfl rfl <| l_on rfl rfl <| l_q rfl (qquo rfl rfl) ?_
        refine l_on rfl rfl <| l_q rfl (qmul rfl rfl) ?_
        refine l_on rfl rfl <| l_q rfl (qfa 0 rfl yU39 rfl rfl yS3) <| l_on rfl rfl <| l_q rfl (qld rfl yA3) ?_
        refine l_on rfl rfl <| l_q rfl (qsub rfl rfl) ?_
        refine l_on rfl rfl <| l_q rfl (qi rfl rfl (b_eql ·)) <| l_q rfl (q_pk rfl rfl) <| mv rfl rfl <| l_pt (t := 39) rfl (fun z4 => ?_) fun z4 => ?_
        · refine l_on rfl rfl <| l_q rfl (qfa 4 rfl yU39 rfl rfl yS3) <| l_on rfl rfl <| l_q rfl (qld rfl yA3) ?_
          refine l_on rfl rfl <| l_q rfl (qi rfl rfl (b_eql ·)) <| l_q rfl (q_pk rfl rfl) <| mv rfl rfl <| l_pt (t := 44) rfl (fun z5 => ?_) fun z5 => ?_
          · refine l_on rfl rfl <| l_q rfl (qfa 5 rfl yU39 rfl rfl yS3) <| l_on rfl rfl <| l_q rfl (qld rfl yA3) ?_
            refine l_on rfl rfl <| l_q rfl (qi rfl rfl (b_eql ·)) <| l_q rfl (q_pk rfl rfl) <| mv rfl rfl <| l_pt (t := 49) rfl (fun z6 => ?_) fun z6 => ?_
            · refine l_on rfl rfl <| l_q rfl (qfa 6 rfl yU39 rfl rfl yS4) <| l_on rfl rfl <| l_q rfl (qld rfl yA4) ?_
              refine l_on rfl rfl <| l_q rfl (q_un rfl (u_not ·)) <| l_q rfl (q_pk rfl rfl) <| asg rfl rfl <| lc <| rt <| fr1 rfl ([arenaH pa s]) (.tmp rfl) ?_
              exact ⟨by rw [h6]; rfl, rfl⟩
            · exact absurd h5 z6
          · exact absurd h4 z5
        · exact absurd (by rw [h3]; omega) z4
      · exact absurd h2 z3
    · exact absurd rfl z2
  · exact absurd rfl z1

/-- holds, of a table and one that was filled with its cells. -/
theorem holds_ok (G : HP) (hGT : TabOk G) (hGO : OddOk G) (pa po bm off n e : Nat) (s : ArS) (T : Tb) (m : List (ByteArray × Value)) (hm : OverOk m) (seed : Int) (hsd : 0 ≤ seed ∧ seed < 18446744073709551616) (size depth : Int) (vh vs : Value) (wo : Int) (hP : TabP s off (off + 64) l64 n e T) (hT : LT n (hashF m seed) T) (off2 N E : Nat) (U : Tb) (lives : List Life) (hP2 : TabP s off2 (off2 + 64) l64 N E U) (hR : RF (hashF m seed) T.cells (8 * n) N U lives (cnt isFull T.cells (8 * n))) :
    FnOk Tryz.prog 16 #[.agg #[.pointer (some ⟨pa, 0, none⟩), .pointer (some ⟨po, 0, none⟩), .pointer (some ⟨pa, 0, none⟩), .int .i64 l64.key, .int .i64 l64.elem, .int .i64 l64.ka, .int .i64 l64.ea, .int .i64 l64.cap, .int .i64 l64.eo, .int .i64 l64.bo, .int .i64 l64.slot, .int .i64 l64.group, .int .i64 wo], .agg #[.int .u64 seed, .int .i64 size, .int .i64 depth, vh, vs], .agg #[.pointer (some ⟨pa, 0, none⟩), .int .i64 l64.key, .int .i64 l64.elem, .int .i64 l64.ka, .int .i64 l64.ea, .int .i64 l64.cap, .int .i64 l64.eo, .int .i64 l64.bo, .int .i64 l64.slot, .int .i64 l64.group, .int .i64 (off : Nat)], .agg #[.pointer (some ⟨pa, 0, none⟩), .int .i64 l64.key, .int .i64 l64.elem, .int .i64 l64.ka, .int .i64 l64.ea, .int .i64 l64.cap, .int .i64 l64.eo, .int .i64 l64.bo, .int .i64 l64.slot, .int .i64 l64.group, .int .i64 (off2 : Nat)], .agg #[.pointer (some ⟨pa, 0, none⟩), .int .i64 l64.key, .int .i64 l64.elem, .int .i64 l64.ka, .int .i64 l64.ea, .int .i64 l64.cap, .int .i64 l64.eo, .int .i64 l64.bo, .int .i64 l64.slot, .int .i64 l64.group, .int .i64 (off2 : Nat)]] [pt po (.cells #[.map (some bm)] 151 (0, 0)), mapH (fun k : ByteArray => Value.string k) bm m, G, arenaH pa s] (fun v L => v = .bool true ∧ L = [pt po (.cells #[.map (some bm)] 151 (0, 0)), mapH (fun k : ByteArray => Value.string k) bm m, G, arenaH pa s]) := by
  have hn8 := hP.n0
  have hN8 := hP2.n0
  have hcount := lt_count hT hn8.1
  obtain ⟨hu, _, _, _⟩ := hR.counts
  have hfull := cnt_le isFull T.cells (8 * n)
  refine fn_intro en16 Tryz.func16 rfl rfl rfl fun Fr w0 => t_nm ?_
  refine sr <| o_boxA rfl rfl fun b5 => o_boxA rfl rfl fun b6 => o_boxA rfl rfl fun b7 => o_boxA rfl rfl fun b8 => o_boxA rfl rfl fun b9 => asg rfl rfl <| lz <| asg rfl rfl <| lc <| t_seq <| sr <| asg rfl rfl <| lc <| t_block ?_
  refine t_loop (fun i : Nat => i ≤ 62) (fun i => [(5, .pointer (some ⟨b5, 0, none⟩)), (6, .pointer (some ⟨b6, 0, none⟩)), (7, .pointer (some ⟨b7, 0, none⟩)), (8, .pointer (some ⟨b8, 0, none⟩)), (9, .pointer (some ⟨b9, 0, none⟩)), (11, .int .i64 (cnt isFull (tellC n (hashF m seed) T) i : Nat)), (12, .int .i64 (i : Nat))]) (fun _ => pt b9 (.cells #[.pointer (some ⟨pa, 0, none⟩), .int .i64 l64.key, .int .i64 l64.elem, .int .i64 l64.ka, .int .i64 l64.ea, .int .i64 l64.cap, .int .i64 l64.eo, .int .i64 l64.bo, .int .i64 l64.slot, .int .i64 l64.group, .int .i64 (off2 : Nat)] 32 (0, 0)) :: pt b8 (.cells #[.pointer (some ⟨pa, 0, none⟩), .int .i64 l64.key, .int .i64 l64.elem, .int .i64 l64.ka, .int .i64 l64.ea, .int .i64 l64.cap, .int .i64 l64.eo, .int .i64 l64.bo, .int .i64 l64.slot, .int .i64 l64.group, .int .i64 (off2 : Nat)] 32 (0, 0)) :: pt b7 (.cells #[.pointer (some ⟨pa, 0, none⟩), .int .i64 l64.key, .int .i64 l64.elem, .int .i64 l64.ka, .int .i64 l64.ea, .int .i64 l64.cap, .int .i64 l64.eo, .int .i64 l64.bo, .int .i64 l64.slot, .int .i64 l64.group, .int .i64 (off : Nat)] 32 (0, 0)) :: pt b6 (.cells #[.int .u64 seed, .int .i64 size, .int .i64 depth, vh, vs] 26 (0, 0)) :: pt b5 (.cells #[.pointer (some ⟨pa, 0, none⟩), .pointer (some ⟨po, 0, none⟩), .pointer (some ⟨pa, 0, none⟩), .int .i64 l64.key, .int .i64 l64.elem, .int .i64 l64.ka, .int .i64 l64.ea, .int .i64 l64.cap, .int .i64 l64.eo, .int .i64 l64.bo, .int .i64 l64.slot, .int .i64 l64.group, .int .i64 wo] 34 (0, 0)) :: pt po (.cells #[.map (some bm)] 151 (0, 0)) :: mapH (fun k : ByteArray => Value.string k) bm m :: G :: arenaH pa s :: Fr) (fun i => 62 - i) 0 (Nat.zero_le _) ⟨rfl, rfl, rfl, rfl, rfl, rfl, rfl, trivial⟩ (by (exact en)) ?_
  intro i hi
  refine t_seq <| sr <| mv rfl rfl <| l_q rfl (qi rfl rfl (b_lss ·)) <| lc <| t_if rfl (fun h1 => ?_) fun h1 => ?_
  · skip
    have hks := letter_size (i := i) (by omega)
    have hhb := hashF_bnd hm seed (letter i)
    have hcs := cnt_succ isFull (tellC n (hashF m seed) T) i
    have hci := cnt_le isFull (tellC n (hashF m seed) T) i
    refine t_skip <| n_code <| t_seq <| t_block <| sr <| mv rfl rfl <| mv rfl rfl <| l_q rfl (qadd rfl rfl) ?_
    apply l_q rfl
    · refine QV.to (v' := .string (letter i)) (q_sliceS_lh (s := letters) rfl rfl rfl Tryz.underlying9 ⟨by omega, by omega, by show _ ≤ (62 : Int); omega⟩) (by rw [show ((i : Int) + 1).toNat = i + 1 by omega, Int.toNat_natCast]; rfl)
    refine asg rfl rfl <| lz <| l_q rfl (qfa 1 rfl yU34 rfl rfl yS28) <| l_q rfl (qld rfl yA28) ?_
    refine l_q rfl (qfa 0 rfl yU26 rfl rfl yS22) <| l_q rfl (qld rfl yA22) ?_
    refine mv rfl rfl <| lc1 rfl rfl rfl (Hash_ok G hGO po bm _ hm seed hsd (letter i) (by omega)) ?_
    refine asg rfl rfl <| lz <| l_q rfl (qlda rfl yA32 yS32) ?_
    refine mv rfl rfl <| mv rfl rfl <| lc1 rfl rfl rfl (TGet_ok G hGT pa off (off + 64) n e s l64 T hP _ hhb (letter i) (by rw [hks, kN64])) ?_
    refine mv rfl rfl <| l_q rfl (q_extractL rfl ga) ?_
    refine l_q rfl (q_extractL rfl ga) ?_
    refine o_allocA rfl yZ66 fun b15 => sta rfl rfl rfl yS66 rfl rfl ?_
    refine asg rfl rfl <| lz <| l_q rfl (qlda rfl yA32 yS32) ?_
    refine mv rfl rfl <| mv rfl rfl <| lc1 rfl rfl rfl (TGet_ok G hGT pa off2 (off2 + 64) N E s l64 U hP2 _ hhb (letter i) (by rw [hks, kN64])) ?_
    rw [RF.same hT hn8.1 hR (letter i)]
    obtain ⟨C, hC⟩ : ∃ C, C = getC n T (hashF m seed (letter i)) (letter i) := ⟨_, rfl⟩
    rw [show tellC n (hashF m seed) T i = C from hC.symm] at hcs
    rw [← hC]
    refine mv rfl rfl <| l_q rfl (q_extractL rfl ga) ?_
    refine l_q rfl (q_extractL rfl ga) ?_
    refine o_allocA rfl yZ66 fun b17 => sta rfl rfl rfl yS66 rfl rfl ?_
    refine asg rfl rfl <| lc <| t_seq <| sr <| mv rfl rfl <| l_q rfl (qi rfl rfl (b_neq ·)) <| mv rfl rfl <| l_pt (t := 55) rfl (fun z1 => ?_) fun z1 => ?_
    · exact absurd rfl z1
    · refine l_on rfl rfl <| mv rfl rfl <| l_on rfl rfl <| l_q rfl (qi rfl rfl (b_neq ·)) <| l_q rfl (q_pk rfl rfl) <| lc <| t_if rfl (fun z2 => ?_) fun z2 => ?_
      · exact absurd rfl z2
      · refine t_skip <| n_code <| t_seq <| t_seq <| t_draw mixed ?_
        apply dq 0 rfl
        · exact yq (qlda rfl yA32 yS32)
        apply dq 2 rfl
        · exact yq (qlda rfl yA32 yS32)
        refine d_eff1 [0] [2] 1 [(59, _)] gO ⟨rfl, trivial⟩ (by kernel_rfl) (by kernel_rfl) fun Ex => ?_
        refine lc1 rfl rfl rfl (TOff_ok pa l64 (off2 : Nat)) ?_
        refine l_nil ?_
        apply n_d
        · refine ⟨?_, trivial⟩
          · apply ya rfl rfl; exact yq (qlda rfl yA32 yS32)
        refine d_eff1 [2] [] 3 [(61, _)] gO ⟨rfl, trivial⟩ (by kernel_rfl) (by kernel_rfl) fun Ex => ?_
        refine lc1 rfl rfl rfl (TOff_ok pa l64 (off2 : Nat)) ?_
        refine l_nil ?_
        apply n_d
        · exact trivial
        apply dq 4 rfl
        · exact yq (qi rfl rfl (b_neq ·))
        refine d_end (by kernel_rfl) ?_
        refine n_code <| t_if rfl (fun z3 => ?_) fun z3 => ?_
        · exact absurd rfl z3
        · refine t_skip <| n_code <| t_seq <| sr <| l_q rfl (qlda rfl yA66 yS66) ?_
          refine l_q rfl (qlda rfl yA66 yS66) ?_
          refine l_q rfl (q_bin rfl rfl (g_flat · yG66) fun w => b_neqFlat w yU66 yH66 (by kernel_rfl) (by kernel_rfl)) ?_
          refine lc <| t_if rfl (fun z4 => ?_) fun z4 => ?_
          · simp at z4
          · refine t_skip <| nz <| l_q rfl (qfa 0 rfl yU66 rfl rfl yS3) <| l_q rfl (qld rfl yA3) ?_
            refine l_q rfl (qi rfl rfl (b_eql ·)) <| lc <| t_if rfl (fun z5 => ?_) fun z5 => ?_
            · refine t_region <| mv rfl rfl <| l_q rfl (qadd rfl rfl) ?_
              refine asg rfl rfl <| l_nil <| n_blk <| n_code <| t_region <| mv rfl rfl <| l_q rfl (qadd rfl rfl) ?_
              refine asg rfl rfl <| l_nil ?_
              rw [if_pos (kind_full.1 z5)] at hcs
              apply n_again ((i + 1))
              · exact by omega
              · omega
              · exact ⟨rfl, rfl, rfl, rfl, rfl, by rw [hcs]; rfl, rfl, trivial⟩
              · exact en
            · refine t_skip <| n_blk <| n_code <| t_region <| mv rfl rfl <| l_q rfl (qadd rfl rfl) ?_
              refine asg rfl rfl <| l_nil ?_
              rw [if_neg (fun q => z5 (kind_full.2 q))] at hcs
              apply n_again ((i + 1))
              · exact by omega
              · omega
              · exact ⟨rfl, rfl, rfl, rfl, rfl, by rw [hcs]; rfl, rfl, trivial⟩
              · exact en
  · skip
    obtain rfl : i = 62 := by omega
    refine xt rfl <| nz <| l_q rfl (qlda rfl yA32 yS32) ?_
    refine lc1 rfl rfl rfl (StatP_ok pa off2 (off2 + 64) N E s l64 U hP2) ?_
    refine mv rfl rfl <| l_q rfl (q_extractL rfl ga) ?_
    refine l_q rfl (q_extractL rfl ga) ?_
    refine o_allocA rfl yZ39 fun b21 => sta rfl rfl rfl yS39 rfl rfl ?_
    refine asg rfl rfl <| lz <| l_q rfl (qlda rfl yA32 yS32) ?_
    refine lc1 rfl rfl rfl (StatP_ok pa off2 (off2 + 64) N E s l64 U hP2) ?_
    refine mv rfl rfl <| l_q rfl (q_extractL rfl ga) ?_
    refine l_q rfl (q_extractL rfl ga) ?_
    refine o_allocA rfl yZ39 fun b23 => sta rfl rfl rfl yS39 rfl rfl ?_
    refine asg rfl rfl <| lc <| t_seq <| sr <| mv rfl rfl <| l_q rfl (qi rfl rfl (b_neq ·)) <| mv rfl rfl <| l_pt (t := 107) rfl (fun y1 => ?_) fun y1 => ?_
    · exact absurd rfl y1
    · refine l_on rfl rfl <| mv rfl rfl <| l_on rfl rfl <| l_q rfl (qi rfl rfl (b_neq ·)) <| l_q rfl (q_pk rfl rfl) <| lc <| t_if rfl (fun y2 => ?_) fun y2 => ?_
      · exact absurd rfl y2
      · refine t_skip <| n_code <| t_seq <| t_seq <| t_draw mixed ?_
        apply dq 0 rfl
        · exact yq (qlda rfl yA32 yS32)
        apply dq 2 rfl
        · exact yq (qlda rfl yA32 yS32)
        refine d_eff1 [0] [2] 1 [(111, _)] gO ⟨rfl, trivial⟩ (by kernel_rfl) (by kernel_rfl) fun Ex => ?_
        refine lc1 rfl rfl rfl (TOff_ok pa l64 (off2 : Nat)) ?_
        refine l_nil ?_
        apply n_d
        · refine ⟨?_, trivial⟩
          · apply ya rfl rfl; exact yq (qlda rfl yA32 yS32)
        refine d_eff1 [2] [] 3 [(113, _)] gO ⟨rfl, trivial⟩ (by kernel_rfl) (by kernel_rfl) fun Ex => ?_
        refine lc1 rfl rfl rfl (TOff_ok pa l64 (off2 : Nat)) ?_
        refine l_nil ?_
        apply n_d
        · exact trivial
        apply dq 4 rfl
        · exact yq (qi rfl rfl (b_eql ·))
        refine d_end (by kernel_rfl) ?_
        refine n_code <| t_if rfl (fun y3 => ?_) fun y3 => ?_
        · refine sr <| l_q rfl (qfa 0 rfl yU39 rfl rfl yS3) <| l_q rfl (qld rfl yA3) ?_
          refine mv rfl rfl <| l_q rfl (qi rfl rfl (b_eql ·)) <| asg rfl rfl <| lc <| rt <| fr1 rfl ([pt po (.cells #[.map (some bm)] 151 (0, 0)), mapH (fun k : ByteArray => Value.string k) bm m, G, arenaH pa s]) (.tmp rfl) ?_
          exact ⟨by rw [hu, hcount, decide_eq_true rfl], rfl⟩
        · exact absurd rfl y3
end Go.Proofs.YtmdangoaomppdaaGreatDoor.Grow
