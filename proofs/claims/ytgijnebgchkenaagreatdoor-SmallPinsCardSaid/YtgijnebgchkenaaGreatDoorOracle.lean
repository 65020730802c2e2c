/- Contracts of package oracle: the mixer. -/
import Derived.Test.YtgijnebgchkenaaGreatDoorMem
import Derived.Test.YtgijnebgchkenaaGreatDoorCtrl
import Derived.Test.YtgijnebgchkenaaGreatDoorEngMap
set_option linter.unusedVariables false
set_option linter.unusedSimpArgs false
set_option maxRecDepth 100000
namespace Go.Proofs.YtgijnebgchkenaaGreatDoor.Oracle
open Go.RowKit Go.Proofs Go.Proofs.YtgijnebgchkenaaGreatDoor.Eng Go.Proofs.YtgijnebgchkenaaGreatDoor.Ty Go.Proofs.YtgijnebgchkenaaGreatDoor.Bits Go.Proofs.YtgijnebgchkenaaGreatDoor.Mem Go.Proofs.YtgijnebgchkenaaGreatDoor.CtrlB Go.Proofs.YtgijnebgchkenaaGreatDoor.Ctrl

/-- The piece G holds the mixer's two multipliers. -/
def OddOk (G : HP) : Prop := CellAt G ⟨0, 0, none⟩ (.int .u64 13234230157428861123) ∧ CellAt G ⟨0, 1, none⟩ (.int .u64 11329751410908088055)
def mix0 (seed : Int) (n : Nat) : Int := bits .xor .u64 seed (IntKind.u64.wrap (13234230157428861123 * (1 + (n : Int))))
def mixX (h b : Int) : Int := IntKind.u64.wrap (bits .xor .u64 h b * 11329751410908088055)
def mixS (h b : Int) : Int := bits .xor .u64 (mixX h b) ((mixX h b).fdiv (2 ^ min (Int.toNat 31) IntKind.u64.bits))
/-- The mixer's sum behind the first bytes. -/
def mixR (seed : Int) (key : ByteArray) : Nat → Int
  | 0 => mix0 seed key.size
  | i + 1 => mixS (mixR seed key i) (if h : i < key.size then IntKind.u64.wrap ((key[i]'h).toNat : Int) else 0)
def mixA (h : Int) : Int := bits .xor .u64 h (h.fdiv (2 ^ min (Int.toNat 29) IntKind.u64.bits))
def mixE (h : Int) : Int := bits .xor .u64 (IntKind.u64.wrap (mixA h * 13234230157428861123)) ((IntKind.u64.wrap (mixA h * 13234230157428861123)).fdiv (2 ^ min (Int.toNat 32) IntKind.u64.bits))
/-- The mixer's hash. -/
def mixF (seed : Int) (key : ByteArray) : Int := mixE (mixR seed key key.size)
theorem Mix_ok (G : HP) (hO : OddOk G) (seed : Int) (hs : 0 ≤ seed ∧ seed < 18446744073709551616) (key : ByteArray) (hk : key.size ≤ 128) :
    FnOk Tryz.prog 106 #[.int .u64 seed, .string key] [G] (fun v L => v = .int .u64 (mixF seed key) ∧ L = [G]) := by
  refine fn_intro en106 Tryz.func106 rfl rfl rfl fun Fr w0 => t_nm ?_
  refine sr <| asg rfl rfl <| lz <| mv rfl rfl <| l_q rfl (q_indexAddrA rfl rfl yU229 yS52 (by omega)) ?_
  refine l_q rfl (q_loadR (A := G) rfl yA52 tk hO.1) ?_
  refine mv rfl rfl <| l_q rfl (qls rfl yU9) <| l_q rfl (qadd rfl rfl) ?_
  refine l_q rfl (qcv rfl yU3 yU52) ?_
  refine l_q rfl (qmul rfl rfl) ?_
  refine l_q rfl (qbit rfl rfl rfl) <| asg rfl rfl <| lc <| t_seq <| sr <| asg rfl rfl <| lc <| t_block ?_
  refine t_loop (fun i : Nat => i ≤ key.size) (fun i => [(1, .string key), (5, .int .u64 (mixR seed key i)), (6, .int .i64 (i : Nat))]) (fun _ => G :: Fr) (fun i => key.size - i) 0 (Nat.zero_le _) ⟨rfl, rfl, rfl, trivial⟩ (by (exact en)) ?_
  intro i hi
  refine t_seq <| sr <| mv rfl rfl <| mv rfl rfl <| l_q rfl (qls rfl yU9) <| l_q rfl (qi rfl rfl (b_lss ·)) <| lc <| t_if rfl (fun h => ?_) fun h => ?_
  · refine t_skip <| n_code <| t_seq <| t_block <| t_seq <| t_draw mixed ?_
    apply dq 0 rfl
    · exact yq (q_move rfl)
    apply dq 1 rfl
    · exact yq (q_move rfl)
    apply dq 2 rfl
    · exact yq (q_move rfl)
    apply dq 3 rfl
    · exact yq (q_indexS rfl rfl yU9 (by omega))
    apply dq 4 rfl
    · exact yq (qcv rfl yU5 yU52)
    apply dq 5 rfl
    · exact yq (qbit rfl rfl rfl)
    apply dq 6 rfl
    · exact yq (q_indexAddrA rfl rfl yU229 yS52 (by omega))
    apply dq 7 rfl
    · exact yq (q_loadR (A := G) rfl yA52 tk hO.2)
    apply dq 8 rfl
    · exact yq (qmul rfl rfl)
    refine d_eff1 [8, 0, 1, 2, 3, 4, 5, 6, 7] [] 9 [(30, _)] gO ⟨rfl, trivial⟩ (by kernel_rfl) (by kernel_rfl) fun Ex => ?_
    refine asg rfl rfl <| l_nil ?_
    apply n_d
    · exact trivial
    refine d_end (by kernel_rfl) ?_
    refine n_code <| t_region <| mv rfl rfl <| mv rfl rfl ?_
    apply l_q rfl
    · apply qi rfl rfl; first | exact fun w => b_shr_c (m := 2147483648) w (by decide) (by decide) (by omega) | exact fun w => b_shr w (by decide)
    refine l_q rfl (qbit rfl rfl rfl) <| asg rfl rfl <| l_nil <| n_blk <| n_code <| t_region <| mv rfl rfl <| l_q rfl (qadd rfl rfl) ?_
    refine asg rfl rfl <| l_nil ?_
    have hst : mixR seed key (i + 1) = mixS (mixR seed key i) (IntKind.u64.wrap ((key[i]'(by omega)).toNat : Int)) := by simp only [mixR]; rw [dif_pos]
    apply n_again ((i + 1))
    · exact by omega
    · omega
    · exact ⟨rfl, by rw [hst]; rfl, rfl, trivial⟩
    · exact en
  · refine xt rfl <| nz <| mv rfl rfl <| mv rfl rfl ?_
    apply l_q rfl
    · apply qi rfl rfl; first | exact fun w => b_shr_c (m := 536870912) w (by decide) (by decide) (by omega) | exact fun w => b_shr w (by decide)
    refine l_q rfl (qbit rfl rfl rfl) <| asg rfl rfl <| lz <| mv rfl rfl <| l_q rfl (q_indexAddrA rfl rfl yU229 yS52 (by omega)) ?_
    refine l_q rfl (q_loadR (A := G) rfl yA52 tk hO.1) ?_
    refine l_q rfl (qmul rfl rfl) ?_
    refine asg rfl rfl <| lz <| mv rfl rfl <| mv rfl rfl ?_
    apply l_q rfl
    · apply qi rfl rfl; first | exact fun w => b_shr_c (m := 4294967296) w (by decide) (by decide) (by omega) | exact fun w => b_shr w (by decide)
    refine l_q rfl (qbit rfl rfl rfl) <| asg rfl rfl <| lc <| rt ?_
    obtain rfl : i = key.size := by omega
    exact fr1 rfl ([G]) (.tmp rfl) ⟨rfl, rfl⟩
/-- The overrides that a map holds. -/
def OverOk (m : List (ByteArray × Value)) : Prop := ∀ k v, lkK m k = some v → ∃ x, v = .int .u64 x ∧ 0 ≤ x ∧ x < 18446744073709551616
def hashF (m : List (ByteArray × Value)) (seed : Int) (key : ByteArray) : Int := match lkK m key with | some (.int _ x) => x | _ => mixF seed key
theorem Hash_ok (G : HP) (hO : OddOk G) (po bm : Nat) (m : List (ByteArray × Value)) (hm : OverOk m) (seed : Int) (hs : 0 ≤ seed ∧ seed < 18446744073709551616) (key : ByteArray) (hk : key.size ≤ 128) :
    FnOk Tryz.prog 51 #[.pointer (some ⟨po, 0, none⟩), .int .u64 seed, .string key] [pt po (.cells #[.map (some bm)] 191 (0, 0)), mapH (fun k : ByteArray => Value.string k) bm m, G]
      (fun v L => v = .int .u64 (hashF m seed key) ∧ L = [pt po (.cells #[.map (some bm)] 191 (0, 0)), mapH (fun k : ByteArray => Value.string k) bm m, G]) := by
  refine fn_intro en51 Tryz.func51 rfl rfl rfl fun Fr w0 => t_nm ?_
  refine sr <| asg rfl rfl <| lc <| t_seq <| sr <| mv rfl rfl <| l_q rfl (q_nilCheck rfl) <| l_q rfl (qfa 0 rfl yU191 rfl rfl yS189) <| l_q rfl (qld rfl yA189) ?_
  refine mv rfl rfl ?_
  apply l_q rfl
  · apply q_lookup2 keyStr rfl rfl yU189 yU9 yZ52
    · exact tk
  refine mv rfl rfl <| l_q rfl (q_extractL rfl ga) ?_
  refine l_q rfl (q_extractL rfl ga) ?_
  refine asg rfl rfl <| asg rfl rfl <| lz <| mv rfl rfl <| lc <| t_if rfl (fun h => ?_) fun h => ?_
  · refine sr <| mv rfl rfl <| asg rfl rfl <| lc <| rt ?_
    obtain ⟨v, hv⟩ := Option.isSome_iff_exists.1 h
    obtain ⟨x, rfl, _⟩ := hm _ _ hv
    refine fr1 rfl ([pt po (.cells #[.map (some bm)] 191 (0, 0)), mapH (fun k : ByteArray => Value.string k) bm m, G]) (.tmp rfl) ?_
    exact ⟨by unfold hashF; rw [hv]; rfl, rfl⟩
  · refine t_skip <| nz <| mv rfl rfl <| mv rfl rfl ?_
    have hv : lkK m key = none := by simpa using h
    refine lc1 rfl rfl rfl (Mix_ok G hO seed hs key hk) ?_
    refine asg rfl rfl <| lc <| rt <| fr1 rfl ([pt po (.cells #[.map (some bm)] 191 (0, 0)), mapH (fun k : ByteArray => Value.string k) bm m, G]) (.tmp rfl) ?_
    exact ⟨by unfold hashF; rw [hv], rfl⟩
theorem xor_bnd (a b : Int) : 0 ≤ bits .xor .u64 a b ∧ bits .xor .u64 a b < 18446744073709551616 := by
  unfold bits
  simp only [IntKind.wrap_u64]
  omega
theorem mixF_bnd (seed : Int) (key : ByteArray) : 0 ≤ mixF seed key ∧ mixF seed key < 18446744073709551616 := xor_bnd _ _
theorem hashF_bnd {m : List (ByteArray × Value)} (hm : OverOk m) (seed : Int) (key : ByteArray) : 0 ≤ hashF m seed key ∧ hashF m seed key < 18446744073709551616 := by
  unfold hashF
  split
  · next k x h =>
    obtain ⟨y, e, h1, h2⟩ := hm _ _ h
    cases e; exact ⟨h1, h2⟩
  · exact mixF_bnd _ _
end Go.Proofs.YtgijnebgchkenaaGreatDoor.Oracle
