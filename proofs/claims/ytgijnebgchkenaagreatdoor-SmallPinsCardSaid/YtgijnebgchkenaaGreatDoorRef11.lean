/- The contracts of larderlaw11's small helpers. -/
import Derived.Test.YtgijnebgchkenaaGreatDoorRef03
set_option linter.unusedVariables false
set_option linter.unusedSimpArgs false
set_option maxRecDepth 100000
namespace Go.Proofs.YtgijnebgchkenaaGreatDoor.Ref11
open Go.RowKit Go.Proofs Go.Proofs.YtgijnebgchkenaaGreatDoor.Eng Go.Proofs.YtgijnebgchkenaaGreatDoor.Ty Go.Proofs.YtgijnebgchkenaaGreatDoor.Bits Go.Proofs.YtgijnebgchkenaaGreatDoor.Layout Go.Proofs.YtgijnebgchkenaaGreatDoor.Mem Go.Proofs.YtgijnebgchkenaaGreatDoor.Ref03

theorem num11_ok (e : Int) : FnOk Tryz.prog 40 #[.int .i64 e] [] (fun v L => v = .int .i64 e ∧ L = []) := by
  refine fn_intro en40 Tryz.func40 rfl rfl rfl fun Fr w0 => t_nm ?_
  exact sr <| asg rfl rfl <| lz <| mv rfl rfl <| asg rfl rfl <| lc <| rt <| fr1 rfl ([]) (.tmp rfl) ⟨rfl, rfl⟩
theorem text11_ok (n : Int) (w : Nat) (hw : w ≤ 128) : FnOk Tryz.prog 94 #[.int .i64 n, .int .i64 w] [] (fun v L => v = .string (textS n w) ∧ L = []) := by
  refine fn_intro en94 Tryz.func94 rfl rfl rfl fun Fr w0 => t_nm ?_
  refine sr <| asg rfl rfl <| lz <| mv rfl rfl ?_
  apply o_makeSlice1 rfl rfl rfl yU218 yI5 rfl (by omega) (by omega)
  intro b8
  refine asg rfl rfl <| lc <| t_seq <| sr <| asg rfl rfl <| lc <| t_block ?_
  refine t_ent (L' := ownS 5 1 (.slice (some ⟨b8, 0, none⟩) w w) w (memV (layM (fun _ => 0) 0 0 (byteN n)) w) :: Fr) (by rw [lay_zero, ← rep_memV, Int.toNat_natCast]; exact Ent.refl _) ?_
  refine t_loop (fun j : Nat => j ≤ w) (fun j => [(0, .int .i64 (n / 2 ^ (8 * j))), (1, .int .i64 w), (5, .slice (some ⟨b8, 0, none⟩) w w), (6, .int .i64 j)]) (fun j => ownS 5 1 (.slice (some ⟨b8, 0, none⟩) w w) w (memV (layM (fun _ => 0) 0 j (byteN n)) w) :: Fr) (fun j => w - j) 0 (by omega) ⟨by simp; rfl, rfl, by rw [Int.toNat_natCast]; rfl, rfl, trivial⟩ (Ent.refl _) ?_
  intro j hj
  refine t_seq <| sr <| mv rfl rfl <| mv rfl rfl <| l_q rfl (qi rfl rfl (b_lss ·)) <| lc <| t_if rfl (fun h => ?_) fun h => ?_
  · refine t_skip <| n_code <| t_seq <| t_block <| sr <| mv rfl rfl <| mv rfl rfl <| mv rfl rfl <| l_q rfl (q_conv rfl (fun w => c_int w Tryz.underlying3 Tryz.underlying5)) <| l_q rfl (q_indexAddr1 rfl rfl yU218 yS5 (by omega)) ?_
    apply o_storeOwn rfl rfl rfl yS5 rfl
    · exact tk
    · rw [Nat.zero_add, Int.toNat_natCast]; omega
    · refine Eq.trans ?_ (lay_next (m := fun _ => 0) (f := byteN n) (n := w) (o := 0) (j := j) (by omega) rfl); rw [Nat.zero_add, Int.toNat_natCast, Nat.zero_add, IntKind.wrap_u8']; rfl
    refine lr <| mv rfl rfl <| l_q rfl (q_bin rfl rfl (fun w => g_int w) (fun w => b_shr w (by decide))) ?_
    refine asg rfl rfl <| l_nil <| n_blk <| n_code <| t_region <| mv rfl rfl <| l_q rfl (qadd rfl rfl) ?_
    refine asg rfl rfl <| l_nil ?_
    rw [shr8]
    apply n_again ((j + 1))
    · exact (show j + 1 ≤ w by omega)
    · omega
    · exact ⟨rfl, rfl, rfl, rfl, trivial⟩
    · exact en
  · obtain rfl : w = j := by omega
    rw [lay_all]
    refine xt rfl <| nz <| mv rfl rfl ?_
    apply l_q rfl
    · apply q_bytesStr (textS n w) rfl Tryz.underlying218 Tryz.underlying5 Tryz.underlying9
      · rw [textS_size]
      · unfold textS; rw [strM_bytes0 (byteN_in n)]; exact reads_mem0 (by exact tk)
    exact asg rfl rfl <| lc <| rt <| fr1 rfl ([]) (.tmp rfl) ⟨rfl, rfl⟩
theorem text11_okI (n w : Int) (k : Nat) (he : w = (k : Nat)) (hw : k ≤ 128) : FnOk Tryz.prog 94 #[.int .i64 n, .int .i64 w] [] (fun v L => v = .string (textS n k) ∧ L = []) := by subst he; exact text11_ok n k hw
end Go.Proofs.YtgijnebgchkenaaGreatDoor.Ref11
