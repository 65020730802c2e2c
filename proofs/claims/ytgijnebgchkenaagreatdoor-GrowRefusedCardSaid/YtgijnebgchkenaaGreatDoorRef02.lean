/- The document's class of a size; the arena's live bytes. -/
import Derived.Test.YtgijnebgchkenaaGreatDoorArenaW
set_option linter.unusedVariables false
set_option linter.unusedSimpArgs false
set_option maxRecDepth 100000
namespace Go.Proofs.YtgijnebgchkenaaGreatDoor.Arena
open Go.RowKit Go.Proofs Go.Proofs.YtgijnebgchkenaaGreatDoor.Eng Go.Proofs.YtgijnebgchkenaaGreatDoor.Ty Go.Proofs.YtgijnebgchkenaaGreatDoor.Bits Go.Proofs.YtgijnebgchkenaaGreatDoor.Mem Go.Proofs.YtgijnebgchkenaaGreatDoor.Search

theorem Live_ok (pa : Nat) (s : ArS) : FnOk Tryz.prog 9 #[.pointer (some ⟨pa, 0, none⟩)] [arenaH pa s] (fun v L => v = .int .i64 s.live ∧ L = [arenaH pa s]) := by
  refine fn_intro en9 Tryz.func9 rfl rfl rfl fun Fr w0 => t_nm ?_
  refine arena_open fun x hx => ?_
  refine t_norm fun M hM => ?_
  simp only [List.cons_append, List.nil_append] at hM
  subst M
  refine sr <| asg rfl rfl <| lz <| mv rfl rfl <| l_q rfl (q_nilCheck rfl) <| l_q rfl (qfa 1 rfl yU128 rfl rfl yS3) <| l_q rfl (qld rfl yA3) ?_
  refine asg rfl rfl <| lc <| rt ?_
  apply f_ret (.inl rfl) ([arenaH pa s])
  · apply res1 rfl
    · exact .tmp rfl
  · exact ⟨rfl, rfl⟩
  · refine arena_close hx ?_; (exact en)
end Go.Proofs.YtgijnebgchkenaaGreatDoor.Arena
