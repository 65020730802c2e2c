/-
  DERIVED. GIVEN WITH THE SEED: THE CARDS: each row of YthkajgkagnenbaaGreatDoorRows.lean that lists a variable, with what it lists TIED to the program's text (the seventh form; the later family's looks); each row that meets fmt, with fmt's text TOLD by the authors' own Lean function (tested against real Go, not proved from fmt's source: count such statements apart). THE CARD IS WHAT COUNTS. Prove the row's statement (the work); the ties are given (YthkajgkagnenbaaGreatDoorTie.lean); close each card by the builder's one call (the guide's Derived/Test/ToyasCard.lean, 'card_holds'). Laid BY PROGRAM, IN A SANDBOX (cutbox-door.mjs). By AI agents, Wed Nov 11 2026. No macro, syntax, notation, axiom, sorry.
-/
import Derived.Test.YthkajgkagnenbaaGreatDoorRows
import GoSem.ClaimSeven
namespace Go.Proofs.YthkajgkagnenbaaGreatDoor
namespace Rows

/-- THE TIED CARD OF 'larderlaw08.TableBytes'. -/
def tableBytesCard : Claim7 := { stood := { row := tableBytesRow, standIns := [], harness := (true, "0e3cc73a8259bdd8e7ee1662be7d3d818b047fb6cfdca3e936e31c2b75e58e02"), looks := false }, kinds := [], alts := [], laidByText := true, laidKinds := [.data], laidTests := true, laidLooks := .later }
def TableBytesCardSaid : Prop := Claim7.holds Tryz.pinned (.plain (OpenSpec.ofChange tableBytesSpec)) tableBytesCard

/-- THE TIED CARD OF 'larderlaw08.TableExact'. -/
def tableExactCard : Claim7 := { stood := { row := tableExactRow, standIns := [], harness := (true, "0e3cc73a8259bdd8e7ee1662be7d3d818b047fb6cfdca3e936e31c2b75e58e02"), looks := false }, kinds := [], alts := [], laidByText := true, laidKinds := [.data], laidTests := true, laidLooks := .later }
def TableExactCardSaid : Prop := Claim7.holds Tryz.pinned (.plain (OpenSpec.ofChange tableExactSpec)) tableExactCard

/-- THE TIED CARD OF 'larderlaw11.SmallBytes'. -/
def smallBytesCard : Claim7 := { stood := { row := smallBytesRow, standIns := [], harness := (true, "0e3cc73a8259bdd8e7ee1662be7d3d818b047fb6cfdca3e936e31c2b75e58e02"), looks := false }, kinds := [], alts := [], laidByText := true, laidKinds := [.data, .data], laidTests := true, laidLooks := .later }
def SmallBytesCardSaid : Prop := Claim7.holds Tryz.pinned (.plain (OpenSpec.ofChange smallBytesSpec)) smallBytesCard

/-- THE TIED CARD OF 'larderlaw11.SmallExact'. -/
def smallExactCard : Claim7 := { stood := { row := smallExactRow, standIns := [], harness := (true, "0e3cc73a8259bdd8e7ee1662be7d3d818b047fb6cfdca3e936e31c2b75e58e02"), looks := false }, kinds := [], alts := [], laidByText := true, laidKinds := [.data, .data], laidTests := true, laidLooks := .later }
def SmallExactCardSaid : Prop := Claim7.holds Tryz.pinned (.plain (OpenSpec.ofChange smallExactSpec)) smallExactCard

/-- THE TIED CARD OF 'larderlaw09.GrowPlays'. -/
def growPlaysCard : Claim7 := { stood := { row := growPlaysRow, standIns := [], harness := (true, "0e3cc73a8259bdd8e7ee1662be7d3d818b047fb6cfdca3e936e31c2b75e58e02"), looks := false }, kinds := [], alts := [], laidByText := true, laidKinds := [.data, .data], laidTests := true, laidLooks := .later }
def GrowPlaysCardSaid : Prop := Claim7.holds Tryz.pinned (.plain (OpenSpec.ofChange growPlaysSpec)) growPlaysCard

/-- THE SECOND FORM's CARD OF 'larderlaw08.TableBytes'. -/
def tableBytesUptoCard : Claim7 := { stood := { row := tableBytesUptoRow, standIns := [], harness := (true, "0e3cc73a8259bdd8e7ee1662be7d3d818b047fb6cfdca3e936e31c2b75e58e02"), looks := false }, kinds := [], alts := [], laidByText := true, laidKinds := [.data], laidTests := true, laidLooks := .later }
def TableBytesUptoCardSaid : Prop := Claim7.holds Tryz.pinned (.plain (OpenSpec.upto tableBytesSpec)) tableBytesUptoCard

/-- THE SECOND FORM's CARD OF 'larderlaw08.TableExact'. -/
def tableExactUptoCard : Claim7 := { stood := { row := tableExactUptoRow, standIns := [], harness := (true, "0e3cc73a8259bdd8e7ee1662be7d3d818b047fb6cfdca3e936e31c2b75e58e02"), looks := false }, kinds := [], alts := [], laidByText := true, laidKinds := [.data], laidTests := true, laidLooks := .later }
def TableExactUptoCardSaid : Prop := Claim7.holds Tryz.pinned (.plain (OpenSpec.upto tableExactSpec)) tableExactUptoCard

/-- THE SECOND FORM's CARD OF 'larderlaw11.SmallBytes'. -/
def smallBytesUptoCard : Claim7 := { stood := { row := smallBytesUptoRow, standIns := [], harness := (true, "0e3cc73a8259bdd8e7ee1662be7d3d818b047fb6cfdca3e936e31c2b75e58e02"), looks := false }, kinds := [], alts := [], laidByText := true, laidKinds := [.data, .data], laidTests := true, laidLooks := .later }
def SmallBytesUptoCardSaid : Prop := Claim7.holds Tryz.pinned (.plain (OpenSpec.upto smallBytesSpec)) smallBytesUptoCard

/-- THE SECOND FORM's CARD OF 'larderlaw11.SmallExact'. -/
def smallExactUptoCard : Claim7 := { stood := { row := smallExactUptoRow, standIns := [], harness := (true, "0e3cc73a8259bdd8e7ee1662be7d3d818b047fb6cfdca3e936e31c2b75e58e02"), looks := false }, kinds := [], alts := [], laidByText := true, laidKinds := [.data, .data], laidTests := true, laidLooks := .later }
def SmallExactUptoCardSaid : Prop := Claim7.holds Tryz.pinned (.plain (OpenSpec.upto smallExactSpec)) smallExactUptoCard

/-- THE SECOND FORM's CARD OF 'larderlaw09.GrowPlays'. -/
def growPlaysUptoCard : Claim7 := { stood := { row := growPlaysUptoRow, standIns := [], harness := (true, "0e3cc73a8259bdd8e7ee1662be7d3d818b047fb6cfdca3e936e31c2b75e58e02"), looks := false }, kinds := [], alts := [], laidByText := true, laidKinds := [.data, .data], laidTests := true, laidLooks := .later }
def GrowPlaysUptoCardSaid : Prop := Claim7.holds Tryz.pinned (.plain (OpenSpec.upto growPlaysSpec)) growPlaysUptoCard
end Rows
end Go.Proofs.YthkajgkagnenbaaGreatDoor
