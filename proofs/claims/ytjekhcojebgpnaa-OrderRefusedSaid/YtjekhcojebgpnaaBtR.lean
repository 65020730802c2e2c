/- Contracts of package order: ranks. -/
import Derived.Test.YtjekhcojebgpnaaBtS
set_option linter.unusedVariables false
set_option linter.unusedSimpArgs false
set_option maxRecDepth 100000
namespace Go.Proofs.Ytjekhcojebgpnaa.Bt
open Go.RowKit Go.Proofs Go.Proofs.Ytjekhcojebgpnaa.Eng Go.Proofs.Ytjekhcojebgpnaa.Ty Go.Proofs.Ytjekhcojebgpnaa.Bits Go.Proofs.Ytjekhcojebgpnaa.Mem Go.Proofs.Ytjekhcojebgpnaa.Search Go.Proofs.Ytjekhcojebgpnaa.Layout Go.Proofs.Ytjekhcojebgpnaa.Arena Go.Proofs.Ytjekhcojebgpnaa.GroupB
section
variable (pa off : Nat) (s : ArS) {l : Lay} (hl : l.err = 0)
/-- How many keys are below a place. -/
theorem totalK_ok (offI : Int) {h : Nat} {t : BT} (hl : l.err = 0) (hs : s.ok) (H : SubT l s (some (h + 1, t))) {j : Nat} (hj : j < t.ks.length) : FnOk Try.prog 82 #[.agg #[.pointer (some ⟨pa, 0, none⟩), .int .i64 l.key, .int .i64 l.elem, .int .i64 l.ka, .int .i64 l.ea, .int .i64 l.cap, .int .i64 l.eo, .int .i64 l.bo, .int .i64 l.slot, .int .i64 l.group, .int .i64 offI], .int .i64 (((kid t j).o : Nat) : Int)] [arenaH pa s] (fun v L => v = .int .i64 ((tot h (kid t j) : Nat) : Int) ∧ L = [arenaH pa s]) := by
 have hk := (H _ _ rfl).1
 have hj7 : j ≤ t.ps.length := by have := hk.2.2.1; omega
 have hc : SubT l s (some (h, kid t j)) := H.nxt hj7
 have hr := root_ne hs hc
 obtain ⟨h1, h2, h3, h4, h5, h6⟩ := hc h (kid t j) rfl
 have hm : (kid t j).o ∈ offs h (kid t j) := by cases h <;> simp [offs]
 have hnb := nb_bnd hl
 have htot : tot h (kid t j) = (lst h (kid t j)).length := rfl
 exact total_ok pa offI s l _ _ _ rfl hr.2 (good_in (show ((((kid t j).o : Nat) : Int), nC l) ∈ s.bl from h3 _ hm) (by omega) (by omega) (by omega)) h2.node.tot (by omega)
include hl
end
end Go.Proofs.Ytjekhcojebgpnaa.Bt
