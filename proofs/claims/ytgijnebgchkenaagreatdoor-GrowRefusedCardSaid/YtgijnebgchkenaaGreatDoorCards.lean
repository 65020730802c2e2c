/-
  DERIVED. GIVEN WITH THE SEED: THE CARDS: each row of YtgijnebgchkenaaGreatDoorRows.lean that lists a variable, with what it lists TIED to the program's text (the seventh form; the later family's looks); each row that meets fmt, with fmt's text TOLD by the authors' own Lean function (tested against real Go, not proved from fmt's source: count such statements apart). THE CARD IS WHAT COUNTS. Prove the row's statement (the work); the ties are given (YtgijnebgchkenaaGreatDoorTie.lean); close each card by the builder's one call (the guide's Derived/Test/ToyasCard.lean, 'card_holds'). Laid BY PROGRAM, IN A SANDBOX (cutbox-door.mjs). By AI agents, Wed Nov 11 2026. No macro, syntax, notation, axiom, sorry.
-/
import Derived.Test.YtgijnebgchkenaaGreatDoorRows
import GoSem.ClaimSeven
namespace Go.Proofs.YtgijnebgchkenaaGreatDoor
namespace Rows

/-- THE TIED CARD OF 'larderlaw08.TableEnds'. -/
def tableEndsCard : Claim7 := { stood := { row := tableEndsRow, standIns := [], harness := (true, "4d59d059b45c16a586565ee4ceb68f2d14f2ae17c8c3492796fa8aa62e665324"), looks := false }, kinds := [], alts := [], laidByText := true, laidKinds := [.data], laidTests := true, laidLooks := .later }
def TableEndsCardSaid : Prop := Claim7.holds Tryz.pinned (.plain (OpenSpec.ofChange tableEndsSpec)) tableEndsCard

/-- THE TIED CARD OF 'larderlaw09.GrowRefused'. -/
def growRefusedCard : Claim7 := { stood := { row := growRefusedRow, standIns := [], harness := (true, "4d59d059b45c16a586565ee4ceb68f2d14f2ae17c8c3492796fa8aa62e665324"), looks := false }, kinds := [], alts := [], laidByText := true, laidKinds := [.data, .data], laidTests := true, laidLooks := .later }
def GrowRefusedCardSaid : Prop := Claim7.holds Tryz.pinned (.plain (OpenSpec.ofChange growRefusedSpec)) growRefusedCard

/-- THE TIED CARD OF 'larderlaw11.SmallPins'. -/
def smallPinsCard : Claim7 := { stood := { row := smallPinsRow, standIns := [], harness := (true, "4d59d059b45c16a586565ee4ceb68f2d14f2ae17c8c3492796fa8aa62e665324"), looks := false }, kinds := [], alts := [], laidByText := true, laidKinds := [.data, .data], laidTests := true, laidLooks := .later }
def SmallPinsCardSaid : Prop := Claim7.holds Tryz.pinned (.plain (OpenSpec.ofChange smallPinsSpec)) smallPinsCard

/-- THE TIED CARD OF 'larderlaw09.GrowPrunes'. -/
def growPrunesCard : Claim7 := { stood := { row := growPrunesRow, standIns := [], harness := (true, "4d59d059b45c16a586565ee4ceb68f2d14f2ae17c8c3492796fa8aa62e665324"), looks := false }, kinds := [], alts := [], laidByText := true, laidKinds := [.data, .data], laidTests := true, laidLooks := .later }
def GrowPrunesCardSaid : Prop := Claim7.holds Tryz.pinned (.plain (OpenSpec.ofChange growPrunesSpec)) growPrunesCard

/-- THE TIED CARD OF 'larderlaw09.GrowRooms'. -/
def growRoomsCard : Claim7 := { stood := { row := growRoomsRow, standIns := [], harness := (true, "4d59d059b45c16a586565ee4ceb68f2d14f2ae17c8c3492796fa8aa62e665324"), looks := false }, kinds := [], alts := [], laidByText := true, laidKinds := [.data, .data], laidTests := true, laidLooks := .later }
def GrowRoomsCardSaid : Prop := Claim7.holds Tryz.pinned (.plain (OpenSpec.ofChange growRoomsSpec)) growRoomsCard

/-- THE SECOND FORM's CARD OF 'larderlaw08.TableEnds'. -/
def tableEndsUptoCard : Claim7 := { stood := { row := tableEndsUptoRow, standIns := [], harness := (true, "4d59d059b45c16a586565ee4ceb68f2d14f2ae17c8c3492796fa8aa62e665324"), looks := false }, kinds := [], alts := [], laidByText := true, laidKinds := [.data], laidTests := true, laidLooks := .later }
def TableEndsUptoCardSaid : Prop := Claim7.holds Tryz.pinned (.plain (OpenSpec.upto tableEndsSpec)) tableEndsUptoCard

/-- THE SECOND FORM's CARD OF 'larderlaw09.GrowRefused'. -/
def growRefusedUptoCard : Claim7 := { stood := { row := growRefusedUptoRow, standIns := [], harness := (true, "4d59d059b45c16a586565ee4ceb68f2d14f2ae17c8c3492796fa8aa62e665324"), looks := false }, kinds := [], alts := [], laidByText := true, laidKinds := [.data, .data], laidTests := true, laidLooks := .later }
def GrowRefusedUptoCardSaid : Prop := Claim7.holds Tryz.pinned (.plain (OpenSpec.upto growRefusedSpec)) growRefusedUptoCard

/-- THE SECOND FORM's CARD OF 'larderlaw11.SmallPins'. -/
def smallPinsUptoCard : Claim7 := { stood := { row := smallPinsUptoRow, standIns := [], harness := (true, "4d59d059b45c16a586565ee4ceb68f2d14f2ae17c8c3492796fa8aa62e665324"), looks := false }, kinds := [], alts := [], laidByText := true, laidKinds := [.data, .data], laidTests := true, laidLooks := .later }
def SmallPinsUptoCardSaid : Prop := Claim7.holds Tryz.pinned (.plain (OpenSpec.upto smallPinsSpec)) smallPinsUptoCard

/-- THE SECOND FORM's CARD OF 'larderlaw09.GrowPrunes'. -/
def growPrunesUptoCard : Claim7 := { stood := { row := growPrunesUptoRow, standIns := [], harness := (true, "4d59d059b45c16a586565ee4ceb68f2d14f2ae17c8c3492796fa8aa62e665324"), looks := false }, kinds := [], alts := [], laidByText := true, laidKinds := [.data, .data], laidTests := true, laidLooks := .later }
def GrowPrunesUptoCardSaid : Prop := Claim7.holds Tryz.pinned (.plain (OpenSpec.upto growPrunesSpec)) growPrunesUptoCard

/-- THE SECOND FORM's CARD OF 'larderlaw09.GrowRooms'. -/
def growRoomsUptoCard : Claim7 := { stood := { row := growRoomsUptoRow, standIns := [], harness := (true, "4d59d059b45c16a586565ee4ceb68f2d14f2ae17c8c3492796fa8aa62e665324"), looks := false }, kinds := [], alts := [], laidByText := true, laidKinds := [.data, .data], laidTests := true, laidLooks := .later }
def GrowRoomsUptoCardSaid : Prop := Claim7.holds Tryz.pinned (.plain (OpenSpec.upto growRoomsSpec)) growRoomsUptoCard
end Rows
end Go.Proofs.YtgijnebgchkenaaGreatDoor
