import Derived.Test.YtgijnebgchkenaaGreatDoorGrowV
import Derived.Test.YtgijnebgchkenaaGreatDoorGrowN
import Derived.Test.YtgijnebgchkenaaGreatDoorGrowS
section
/- Contracts of larderlaw09: picture, fresh, holds. -/
set_option linter.unusedVariables false
set_option linter.unusedSimpArgs false
set_option maxRecDepth 100000
namespace Go.Proofs.YtgijnebgchkenaaGreatDoor.Grow
open Go.RowKit Go.Proofs Go.Proofs.YtgijnebgchkenaaGreatDoor.Eng Go.Proofs.YtgijnebgchkenaaGreatDoor.Ty Go.Proofs.YtgijnebgchkenaaGreatDoor.Bits Go.Proofs.YtgijnebgchkenaaGreatDoor.Mem Go.Proofs.YtgijnebgchkenaaGreatDoor.Search Go.Proofs.YtgijnebgchkenaaGreatDoor.Arena Go.Proofs.YtgijnebgchkenaaGreatDoor.CtrlB Go.Proofs.YtgijnebgchkenaaGreatDoor.Ctrl Go.Proofs.YtgijnebgchkenaaGreatDoor.Layout Go.Proofs.YtgijnebgchkenaaGreatDoor.GroupB Go.Proofs.YtgijnebgchkenaaGreatDoor.Group Go.Proofs.YtgijnebgchkenaaGreatDoor.Probe Go.Proofs.YtgijnebgchkenaaGreatDoor.TableB Go.Proofs.YtgijnebgchkenaaGreatDoor.TableI Go.Proofs.YtgijnebgchkenaaGreatDoor.Table Go.Proofs.YtgijnebgchkenaaGreatDoor.Bench Go.Proofs.YtgijnebgchkenaaGreatDoor.Cells Go.Proofs.YtgijnebgchkenaaGreatDoor.Refill Go.Proofs.YtgijnebgchkenaaGreatDoor.Oracle Go.Proofs.YtgijnebgchkenaaGreatDoor.Ref03

/-- The bytes of a table's two blocks. -/
def picS (m : Nat → Int) (off n : Nat) : ByteArray := strM m off 64 ++ strM m (off + 64) (classI ((n * gN l64 : Nat) : Int)).toNat
theorem strM_congr {m m' : Nat → Int} {o k : Nat} (h : ∀ a, o ≤ a → a < o + k → m a = m' a) : strM m o k = strM m' o k := by
  unfold strM
  congr 2
  exact List.map_congr_left fun i hi => by rw [List.mem_range] at hi; rw [h _ (by omega) (by omega)]
theorem strM_size (m : Nat → Int) (o k : Nat) : (strM m o k).size = k := by simp [strM, ByteArray.size]
theorem picture_ok (pa po off n e : Nat) (wo : Int) (s : ArS) (T : Tb) (hP : TabP s off (off + 64) l64 n e T) (hb : (((off + 64 : Nat) : Int), classI ((n * gN l64 : Nat) : Int)) ∈ s.bl) (hn : n ≤ 64) :
    FnOk Tryz.prog 32 #[.agg #[.pointer (some ⟨pa, 0, none⟩), .pointer (some ⟨po, 0, none⟩), .pointer (some ⟨pa, 0, none⟩), .int .i64 l64.key, .int .i64 l64.elem, .int .i64 l64.ka, .int .i64 l64.ea, .int .i64 l64.cap, .int .i64 l64.eo, .int .i64 l64.bo, .int .i64 l64.slot, .int .i64 l64.group, .int .i64 wo], .agg #[.pointer (some ⟨pa, 0, none⟩), .int .i64 l64.key, .int .i64 l64.elem, .int .i64 l64.ka, .int .i64 l64.ea, .int .i64 l64.cap, .int .i64 l64.eo, .int .i64 l64.bo, .int .i64 l64.slot, .int .i64 l64.group, .int .i64 (off : Nat)]] [arenaH pa s] (fun v L => v = .string (picS s.m off n) ∧ L = [arenaH pa s]) := by
  have hn8 := hP.n0
  have hcb := classI_bnd (n := ((n * gN l64 : Nat) : Int)) (by rw [gN64]; omega)
  have hcb2 := hcb.2.2 (by rw [gN64]; omega)
  have hc0 : (0 : Int) ≤ classI ((n * gN l64 : Nat) : Int) := by rw [gN64] at *; omega
  have hgg : goodP s ((off + 64 : Nat) : Int) (classI ((n * gN l64 : Nat) : Int)) := ⟨hc0, _, hb, by dsimp only; omega, by dsimp only; omega⟩
  have hz1 := strM_size s.m off 64
  have hz2 := strM_size s.m (off + 64) (classI ((n * gN l64 : Nat) : Int)).toNat
  refine fn_intro en32 Tryz.func32 rfl rfl rfl fun Fr w0 => t_nm ?_
  refine sr <| o_boxA rfl rfl fun b2 => o_boxA rfl rfl fun b3 => asg rfl rfl <| lz <| l_q rfl (qlda rfl yA34 yS34) ?_
  refine lc1 rfl rfl rfl (StatP_ok pa off (off + 64) n e s l64 T hP) ?_
  refine mv rfl rfl <| l_q rfl (q_extractL rfl ga) ?_
  refine l_q rfl (q_extractL rfl ga) ?_
  refine o_allocA rfl yZ47 fun b5 => sta rfl rfl rfl yS47 rfl rfl ?_
  refine asg rfl rfl <| lz <| l_q rfl (qfa 0 rfl yU76 rfl rfl yS30) <| l_q rfl (qld rfl yA30) ?_
  refine l_q rfl (qfa 7 rfl yU47 rfl rfl yS3) <| l_q rfl (qld rfl yA3) ?_
  refine lc1 rfl rfl rfl (Size_ok pa s _ _ hb) ?_
  refine mv rfl rfl <| l_q rfl (q_extractL rfl ga) ?_
  refine l_q rfl (q_extractL rfl ga) ?_
  refine asg rfl rfl <| asg rfl rfl <| lc <| t_seq <| t_draw mixed ?_
  apply dq 0 rfl
  · exact yq (qfa 0 rfl yU76 rfl rfl yS30)
  apply dq 1 rfl
  · exact yq (qld rfl yA30)
  apply dq 2 rfl
  · exact yq (qlda rfl yA34 yS34)
  refine d_eff1 [2] [1, 0] 3 [(29, _)] gO ⟨rfl, trivial⟩ (by kernel_rfl) (by kernel_rfl) fun Ex => ?_
  refine lc1 rfl rfl rfl (TOff_ok pa l64 (off : Nat)) ?_
  refine l_nil ?_
  apply n_d
  · refine ⟨?_, ?_, trivial⟩
    · apply ya rfl rfl; exact yq (qld rfl yA30)
    · apply ya rfl rfl; exact yq (qfa 0 rfl yU76 rfl rfl yS30)
  refine d_eff1 [1, 0] [] 4 [(28, _), (30, _)] gO ⟨rfl, rfl, trivial⟩ (by kernel_rfl) (by kernel_rfl) fun Ex => ?_
  refine lc1 rfl rfl rfl (Arena.Read_okI pa s (off : Nat) 64 off 64 rfl rfl hP.gh) ?_
  refine l_nil ?_
  apply n_d
  · exact trivial
  apply dq 5 rfl
  · exact yq (q_move rfl)
  apply dq 6 rfl
  · exact yq (q_extractL rfl ga)
  apply dq 7 rfl
  · exact yq (q_extractL rfl ga)
  refine d_eff1 [6, 5] [7] 8 [(32, _)] gO ⟨rfl, trivial⟩ (by kernel_rfl) (by kernel_rfl) fun Ex => ?_
  refine asg rfl rfl <| l_nil ?_
  apply n_d
  · refine ⟨?_, trivial⟩
    · apply ya rfl rfl; exact yq (q_extractL rfl ga)
  refine d_eff1 [7] [] 9 [(33, _)] gO ⟨rfl, trivial⟩ (by kernel_rfl) (by kernel_rfl) fun Ex => ?_
  refine asg rfl rfl <| l_nil ?_
  apply n_d
  · exact trivial
  refine d_end (by kernel_rfl) ?_
  refine nz <| l_q rfl (qfa 0 rfl yU76 rfl rfl yS30) <| l_q rfl (qld rfl yA30) ?_
  refine l_q rfl (qfa 7 rfl yU47 rfl rfl yS3) <| l_q rfl (qld rfl yA3) ?_
  refine mv rfl rfl <| lc1 rfl rfl rfl (Arena.Read_okI pa s _ _ (off + 64) (classI ((n * gN l64 : Nat) : Int)).toNat rfl (Int.toNat_of_nonneg hc0).symm hgg) ?_
  refine mv rfl rfl <| l_q rfl (q_extractL rfl ga) ?_
  refine l_q rfl (q_extractL rfl ga) ?_
  refine asg rfl rfl <| asg rfl rfl <| lc <| t_seq <| sr <| mv rfl rfl <| l_q rfl (qi rfl rfl (b_neq ·)) <| mv rfl rfl <| l_pt (t := 45) rfl (fun z1 => ?_) fun z1 => ?_
  · exact absurd rfl z1
  · refine l_on rfl rfl <| mv rfl rfl <| l_on rfl rfl <| l_q rfl (qi rfl rfl (b_neq ·)) <| l_q rfl (q_pk rfl rfl) <| mv rfl rfl <| l_pt (t := 49) rfl (fun z2 => ?_) fun z2 => ?_
    · exact absurd rfl z2
    · refine l_on rfl rfl <| mv rfl rfl <| l_on rfl rfl <| l_q rfl (qi rfl rfl (b_neq ·)) <| l_q rfl (q_pk rfl rfl) <| mv rfl rfl <| l_pt (t := 53) rfl (fun z3 => ?_) fun z3 => ?_
      · exact absurd rfl z3
      · refine l_on rfl rfl <| mv rfl rfl <| l_on rfl rfl <| l_q rfl (qi rfl rfl (b_neq ·)) <| l_q rfl (q_pk rfl rfl) <| lc <| t_if rfl (fun z4 => ?_) fun z4 => ?_
        · exact absurd rfl z4
        · refine t_skip <| nz <| mv rfl rfl <| mv rfl rfl ?_
          apply l_q rfl
          · apply qs rfl rfl; first | exact fun w => b_addS w | exact fun w => b_addS w (by omega)
          exact asg rfl rfl <| lc <| rt <| fr1 rfl ([arenaH pa s]) (.tmp rfl) ⟨rfl, rfl⟩
/-- The picture stays where none of its bytes is turned. -/
theorem picS_congr {m m' : Nat → Int} {off n : Nat} (h : ∀ a, off ≤ a → a < off + 64 → m' a = m a) (h2 : ∀ a, off + 64 ≤ a → a < off + 64 + (classI ((n * gN l64 : Nat) : Int)).toNat → m' a = m a) : picS m' off n = picS m off n := by
  unfold picS
  rw [strM_congr h, strM_congr h2]
theorem picS_ne (m : Nat → Int) (off n : Nat) : picS m off n ≠ ⟨#[]⟩ := fun h => by
  have h1 : (picS m off n).size = 0 := by rw [h]; rfl
  unfold picS at h1
  rw [ByteArray.size_append, strM_size] at h1
  omega
end Go.Proofs.YtgijnebgchkenaaGreatDoor.Grow
end
section
/- GrowKeeps answers true. -/
set_option linter.unusedVariables false
set_option linter.unusedSimpArgs false
set_option maxRecDepth 100000
namespace Go.Proofs.YtgijnebgchkenaaGreatDoor.Grow
open Go.RowKit Go.Proofs Go.Proofs.YtgijnebgchkenaaGreatDoor.Eng Go.Proofs.YtgijnebgchkenaaGreatDoor.Ty Go.Proofs.YtgijnebgchkenaaGreatDoor.Bits Go.Proofs.YtgijnebgchkenaaGreatDoor.Mem Go.Proofs.YtgijnebgchkenaaGreatDoor.Search Go.Proofs.YtgijnebgchkenaaGreatDoor.Arena Go.Proofs.YtgijnebgchkenaaGreatDoor.CtrlB Go.Proofs.YtgijnebgchkenaaGreatDoor.Ctrl Go.Proofs.YtgijnebgchkenaaGreatDoor.Layout Go.Proofs.YtgijnebgchkenaaGreatDoor.GroupB Go.Proofs.YtgijnebgchkenaaGreatDoor.Group Go.Proofs.YtgijnebgchkenaaGreatDoor.Probe Go.Proofs.YtgijnebgchkenaaGreatDoor.TableB Go.Proofs.YtgijnebgchkenaaGreatDoor.TableI Go.Proofs.YtgijnebgchkenaaGreatDoor.Table Go.Proofs.YtgijnebgchkenaaGreatDoor.Bench Go.Proofs.YtgijnebgchkenaaGreatDoor.Cells Go.Proofs.YtgijnebgchkenaaGreatDoor.Refill Go.Proofs.YtgijnebgchkenaaGreatDoor.Oracle Go.Proofs.YtgijnebgchkenaaGreatDoor.Ref03

/-- What two tables more take. -/
theorem cls_fit (size : Int) : (64 + classI ((nOf size * gN l64 : Nat) : Int)) + (64 + classI ((nOf size * gN l64 : Nat) : Int)) + (64 + classI ((2 * nOf size * gN l64 : Nat) : Int)) ≤ 65536 ∧ 0 ≤ classI ((nOf size * gN l64 : Nat) : Int) ∧ 0 ≤ classI ((2 * nOf size * gN l64 : Nat) : Int) := by
  have := eOf_le size
  rw [gN64]
  unfold nOf
  have : eOf size = 1 ∨ eOf size = 2 ∨ eOf size = 3 := by omega
  rcases this with e | e | e <;> rw [e] <;> decide
/-- A table made anew, where there is room. -/
def Anewed (pa off po bm n e N E : Nat) (s : ArS) (T : Tb) (m : List (ByteArray × Value)) (sd : Int) (G : HP) (v : Value) (L : List HP) : Prop :=
  ∃ s' U lives, v = .tuple #[.agg #[.pointer (some ⟨pa, 0, none⟩), .int .i64 l64.key, .int .i64 l64.elem, .int .i64 l64.ka, .int .i64 l64.ea, .int .i64 l64.cap, .int .i64 l64.eo, .int .i64 l64.bo, .int .i64 l64.slot, .int .i64 l64.group, .int .i64 ((s.stop : Nat) : Int)], .int .i64 0] ∧ L = [pt po (.cells #[.map (some bm)] 191 (0, 0)), mapH (fun k : ByteArray => Value.string k) bm m, G, arenaH pa s'] ∧ TabP s' s.stop (s.stop + 64) l64 N E U ∧ RF (hashF m sd) T.cells (8 * n) N U lives (cnt isFull T.cells (8 * n)) ∧ NewS s s' (64 + classI ((N * gN l64 : Nat) : Int)) ∧ Keeps (newT N T.depth) U ∧ TabP s' off (off + 64) l64 n e T
theorem Anew.fits {pa off po bm n e N E : Nat} {s : ArS} {T : Tb} {m : List (ByteArray × Value)} {sd : Int} {G : HP} {v : Value} {L : List HP} (h : Anew pa off po bm n e N E s l64 T m sd G v L) (h1 : ((N * gN l64 : Nat) : Int) ≤ 1048576) (h2 : s.live + (64 + classI ((N * gN l64 : Nat) : Int)) ≤ s.limit) : Anewed pa off po bm n e N E s T m sd G v L := by
  rcases h with ⟨hb, _⟩ | ⟨_, _, h⟩
  · omega
  · exact h
end Go.Proofs.YtgijnebgchkenaaGreatDoor.Grow
end
section
/- holds of a table and its two halves; GrowSplits answers true. -/
set_option linter.unusedVariables false
set_option linter.unusedSimpArgs false
set_option maxRecDepth 100000
namespace Go.Proofs.YtgijnebgchkenaaGreatDoor.Grow
open Go.RowKit Go.Proofs Go.Proofs.YtgijnebgchkenaaGreatDoor.Eng Go.Proofs.YtgijnebgchkenaaGreatDoor.Ty Go.Proofs.YtgijnebgchkenaaGreatDoor.Bits Go.Proofs.YtgijnebgchkenaaGreatDoor.Mem Go.Proofs.YtgijnebgchkenaaGreatDoor.Search Go.Proofs.YtgijnebgchkenaaGreatDoor.Arena Go.Proofs.YtgijnebgchkenaaGreatDoor.CtrlB Go.Proofs.YtgijnebgchkenaaGreatDoor.Ctrl Go.Proofs.YtgijnebgchkenaaGreatDoor.Layout Go.Proofs.YtgijnebgchkenaaGreatDoor.GroupB Go.Proofs.YtgijnebgchkenaaGreatDoor.Group Go.Proofs.YtgijnebgchkenaaGreatDoor.Probe Go.Proofs.YtgijnebgchkenaaGreatDoor.TableB Go.Proofs.YtgijnebgchkenaaGreatDoor.TableI Go.Proofs.YtgijnebgchkenaaGreatDoor.Table Go.Proofs.YtgijnebgchkenaaGreatDoor.Bench Go.Proofs.YtgijnebgchkenaaGreatDoor.Cells Go.Proofs.YtgijnebgchkenaaGreatDoor.Refill Go.Proofs.YtgijnebgchkenaaGreatDoor.Oracle Go.Proofs.YtgijnebgchkenaaGreatDoor.Ref03

theorem kind_zero {c : Cell} : c.kind = 0 ↔ c = .empty := by cases c <;> simp [Cell.kind]
end Go.Proofs.YtgijnebgchkenaaGreatDoor.Grow
end
