/-
  DERIVED. GIVEN WITH THE SEED: THE CARDS: each row of YtepkcjfmdenkcaaDoorRows.lean that lists a variable, with what it lists TIED to the program's text (the seventh form; the later family's looks); each row that meets fmt, with fmt's text TOLD by the authors' own Lean function (tested against real Go, not proved from fmt's source: count such statements apart). THE CARD IS WHAT COUNTS. Prove the row's statement (the work); the ties are given (YtepkcjfmdenkcaaDoorTie.lean); close each card by the builder's one call (the guide's Derived/Test/ToyasCard.lean, 'card_holds'). Laid BY PROGRAM, IN A SANDBOX (cutbox-door.mjs). By AI agents, Wed Nov 11 2026. No macro, syntax, notation, axiom, sorry.
-/
import Derived.Test.YtepkcjfmdenkcaaDoorRows
import GoSem.ClaimSeven
namespace Go.Proofs.YtepkcjfmdenkcaaDoor
namespace Rows

/-- THE TIED CARD OF 'larderlaw11.SmallHolds'. -/
def smallHoldsCard : Claim7 := { stood := { row := smallHoldsRow, standIns := [], harness := (true, "8179afd9ab6f30bec857c09e9d1f119e4b9a503f5cfc945ebb2311cba8b3d9ad"), looks := false }, kinds := [], alts := [], laidByText := true, laidKinds := [.data, .data], laidTests := true, laidLooks := .later }
def SmallHoldsCardSaid : Prop := Claim7.holds Tryd.pinned (.plain (OpenSpec.ofChange smallHoldsSpec)) smallHoldsCard

/-- THE SECOND FORM's CARD OF 'larderlaw11.SmallHolds'. -/
def smallHoldsUptoCard : Claim7 := { stood := { row := smallHoldsUptoRow, standIns := [], harness := (true, "8179afd9ab6f30bec857c09e9d1f119e4b9a503f5cfc945ebb2311cba8b3d9ad"), looks := false }, kinds := [], alts := [], laidByText := true, laidKinds := [.data, .data], laidTests := true, laidLooks := .later }
def SmallHoldsUptoCardSaid : Prop := Claim7.holds Tryd.pinned (.plain (OpenSpec.upto smallHoldsSpec)) smallHoldsUptoCard
end Rows
end Go.Proofs.YtepkcjfmdenkcaaDoor
