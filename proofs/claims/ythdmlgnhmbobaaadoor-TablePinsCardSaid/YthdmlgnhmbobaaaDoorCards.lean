/-
  DERIVED. GIVEN WITH THE SEED: THE CARDS: each row of YthdmlgnhmbobaaaDoorRows.lean that lists a variable, with what it lists TIED to the program's text (the seventh form; the later family's looks); each row that meets fmt, with fmt's text TOLD by the authors' own Lean function (tested against real Go, not proved from fmt's source: count such statements apart). THE CARD IS WHAT COUNTS. Prove the row's statement (the work); the ties are given (YthdmlgnhmbobaaaDoorTie.lean); close each card by the builder's one call (the guide's Derived/Test/ToyasCard.lean, 'card_holds'). Laid BY PROGRAM, IN A SANDBOX (cutbox-door.mjs). By AI agents, Wed Nov 11 2026. No macro, syntax, notation, axiom, sorry.
-/
import Derived.Test.YthdmlgnhmbobaaaDoorRows
import GoSem.ClaimSeven
namespace Go.Proofs.YthdmlgnhmbobaaaDoor
namespace Rows

/-- THE TIED CARD OF 'larderlaw08.TablePiles'. -/
def tablePilesCard : Claim7 := { stood := { row := tablePilesRow, standIns := [], harness := (true, "4bfce5d68ace00b8bee74725c1ff0c0f75275f6802d929f6a0c7c0b9427b09a9"), looks := false }, kinds := [], alts := [], laidByText := true, laidKinds := [.data], laidTests := true, laidLooks := .later }
def TablePilesCardSaid : Prop := Claim7.holds Tryd.pinned (.plain (OpenSpec.ofChange tablePilesSpec)) tablePilesCard

/-- THE TIED CARD OF 'larderlaw11.SmallHolds'. -/
def smallHoldsCard : Claim7 := { stood := { row := smallHoldsRow, standIns := [], harness := (true, "4bfce5d68ace00b8bee74725c1ff0c0f75275f6802d929f6a0c7c0b9427b09a9"), looks := false }, kinds := [], alts := [], laidByText := true, laidKinds := [.data, .data], laidTests := true, laidLooks := .later }
def SmallHoldsCardSaid : Prop := Claim7.holds Tryd.pinned (.plain (OpenSpec.ofChange smallHoldsSpec)) smallHoldsCard

/-- THE TIED CARD OF 'larderlaw08.TablePins'. -/
def tablePinsCard : Claim7 := { stood := { row := tablePinsRow, standIns := [], harness := (true, "4bfce5d68ace00b8bee74725c1ff0c0f75275f6802d929f6a0c7c0b9427b09a9"), looks := false }, kinds := [], alts := [], laidByText := true, laidKinds := [.data], laidTests := true, laidLooks := .later }
def TablePinsCardSaid : Prop := Claim7.holds Tryd.pinned (.plain (OpenSpec.ofChange tablePinsSpec)) tablePinsCard

/-- THE SECOND FORM's CARD OF 'larderlaw08.TablePiles'. -/
def tablePilesUptoCard : Claim7 := { stood := { row := tablePilesUptoRow, standIns := [], harness := (true, "4bfce5d68ace00b8bee74725c1ff0c0f75275f6802d929f6a0c7c0b9427b09a9"), looks := false }, kinds := [], alts := [], laidByText := true, laidKinds := [.data], laidTests := true, laidLooks := .later }
def TablePilesUptoCardSaid : Prop := Claim7.holds Tryd.pinned (.plain (OpenSpec.upto tablePilesSpec)) tablePilesUptoCard

/-- THE SECOND FORM's CARD OF 'larderlaw11.SmallHolds'. -/
def smallHoldsUptoCard : Claim7 := { stood := { row := smallHoldsUptoRow, standIns := [], harness := (true, "4bfce5d68ace00b8bee74725c1ff0c0f75275f6802d929f6a0c7c0b9427b09a9"), looks := false }, kinds := [], alts := [], laidByText := true, laidKinds := [.data, .data], laidTests := true, laidLooks := .later }
def SmallHoldsUptoCardSaid : Prop := Claim7.holds Tryd.pinned (.plain (OpenSpec.upto smallHoldsSpec)) smallHoldsUptoCard

/-- THE SECOND FORM's CARD OF 'larderlaw08.TablePins'. -/
def tablePinsUptoCard : Claim7 := { stood := { row := tablePinsUptoRow, standIns := [], harness := (true, "4bfce5d68ace00b8bee74725c1ff0c0f75275f6802d929f6a0c7c0b9427b09a9"), looks := false }, kinds := [], alts := [], laidByText := true, laidKinds := [.data], laidTests := true, laidLooks := .later }
def TablePinsUptoCardSaid : Prop := Claim7.holds Tryd.pinned (.plain (OpenSpec.upto tablePinsSpec)) tablePinsUptoCard
end Rows
end Go.Proofs.YthdmlgnhmbobaaaDoor
