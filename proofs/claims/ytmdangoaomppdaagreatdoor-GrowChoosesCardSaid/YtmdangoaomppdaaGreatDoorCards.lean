/-
  DERIVED. GIVEN WITH THE SEED: THE CARDS: each row of YtmdangoaomppdaaGreatDoorRows.lean that lists a variable, with what it lists TIED to the program's text (the seventh form; the later family's looks); each row that meets fmt, with fmt's text TOLD by the authors' own Lean function (tested against real Go, not proved from fmt's source: count such statements apart). THE CARD IS WHAT COUNTS. Prove the row's statement (the work); the ties are given (YtmdangoaomppdaaGreatDoorTie.lean); close each card by the builder's one call (the guide's Derived/Test/ToyasCard.lean, 'card_holds'). Laid BY PROGRAM, IN A SANDBOX (cutbox-door.mjs). By AI agents, Wed Nov 11 2026. No macro, syntax, notation, axiom, sorry.
-/
import Derived.Test.YtmdangoaomppdaaGreatDoorRows
import GoSem.ClaimSeven
namespace Go.Proofs.YtmdangoaomppdaaGreatDoor
namespace Rows

/-- THE TIED CARD OF 'larderlaw09.GrowKeeps'. -/
def growKeepsCard : Claim7 := { stood := { row := growKeepsRow, standIns := [], harness := (true, "ac16a0017c75451fe73162a4db6ba956d9d5679ee2c9b3b224487920dcb2b042"), looks := false }, kinds := [], alts := [], laidByText := true, laidKinds := [.data, .data], laidTests := true, laidLooks := .later }
def GrowKeepsCardSaid : Prop := Claim7.holds Tryz.pinned (.plain (OpenSpec.ofChange growKeepsSpec)) growKeepsCard

/-- THE TIED CARD OF 'larderlaw11.SmallPromotes'. -/
def smallPromotesCard : Claim7 := { stood := { row := smallPromotesRow, standIns := [], harness := (true, "ac16a0017c75451fe73162a4db6ba956d9d5679ee2c9b3b224487920dcb2b042"), looks := false }, kinds := [], alts := [], laidByText := true, laidKinds := [.data, .data], laidTests := true, laidLooks := .later }
def SmallPromotesCardSaid : Prop := Claim7.holds Tryz.pinned (.plain (OpenSpec.ofChange smallPromotesSpec)) smallPromotesCard

/-- THE TIED CARD OF 'larderlaw09.GrowChooses'. -/
def growChoosesCard : Claim7 := { stood := { row := growChoosesRow, standIns := [], harness := (true, "ac16a0017c75451fe73162a4db6ba956d9d5679ee2c9b3b224487920dcb2b042"), looks := false }, kinds := [], alts := [], laidByText := true, laidKinds := [.data, .data], laidTests := true, laidLooks := .later }
def GrowChoosesCardSaid : Prop := Claim7.holds Tryz.pinned (.plain (OpenSpec.ofChange growChoosesSpec)) growChoosesCard

/-- THE TIED CARD OF 'larderlaw09.GrowSplits'. -/
def growSplitsCard : Claim7 := { stood := { row := growSplitsRow, standIns := [], harness := (true, "ac16a0017c75451fe73162a4db6ba956d9d5679ee2c9b3b224487920dcb2b042"), looks := false }, kinds := [], alts := [], laidByText := true, laidKinds := [.data, .data], laidTests := true, laidLooks := .later }
def GrowSplitsCardSaid : Prop := Claim7.holds Tryz.pinned (.plain (OpenSpec.ofChange growSplitsSpec)) growSplitsCard

/-- THE TIED CARD OF 'larderlaw09.GrowPrunes'. -/
def growPrunesCard : Claim7 := { stood := { row := growPrunesRow, standIns := [], harness := (true, "ac16a0017c75451fe73162a4db6ba956d9d5679ee2c9b3b224487920dcb2b042"), looks := false }, kinds := [], alts := [], laidByText := true, laidKinds := [.data, .data], laidTests := true, laidLooks := .later }
def GrowPrunesCardSaid : Prop := Claim7.holds Tryz.pinned (.plain (OpenSpec.ofChange growPrunesSpec)) growPrunesCard

/-- THE TIED CARD OF 'larderlaw09.GrowRooms'. -/
def growRoomsCard : Claim7 := { stood := { row := growRoomsRow, standIns := [], harness := (true, "ac16a0017c75451fe73162a4db6ba956d9d5679ee2c9b3b224487920dcb2b042"), looks := false }, kinds := [], alts := [], laidByText := true, laidKinds := [.data, .data], laidTests := true, laidLooks := .later }
def GrowRoomsCardSaid : Prop := Claim7.holds Tryz.pinned (.plain (OpenSpec.ofChange growRoomsSpec)) growRoomsCard

/-- THE SECOND FORM's CARD OF 'larderlaw09.GrowKeeps'. -/
def growKeepsUptoCard : Claim7 := { stood := { row := growKeepsUptoRow, standIns := [], harness := (true, "ac16a0017c75451fe73162a4db6ba956d9d5679ee2c9b3b224487920dcb2b042"), looks := false }, kinds := [], alts := [], laidByText := true, laidKinds := [.data, .data], laidTests := true, laidLooks := .later }
def GrowKeepsUptoCardSaid : Prop := Claim7.holds Tryz.pinned (.plain (OpenSpec.upto growKeepsSpec)) growKeepsUptoCard

/-- THE SECOND FORM's CARD OF 'larderlaw11.SmallPromotes'. -/
def smallPromotesUptoCard : Claim7 := { stood := { row := smallPromotesUptoRow, standIns := [], harness := (true, "ac16a0017c75451fe73162a4db6ba956d9d5679ee2c9b3b224487920dcb2b042"), looks := false }, kinds := [], alts := [], laidByText := true, laidKinds := [.data, .data], laidTests := true, laidLooks := .later }
def SmallPromotesUptoCardSaid : Prop := Claim7.holds Tryz.pinned (.plain (OpenSpec.upto smallPromotesSpec)) smallPromotesUptoCard

/-- THE SECOND FORM's CARD OF 'larderlaw09.GrowChooses'. -/
def growChoosesUptoCard : Claim7 := { stood := { row := growChoosesUptoRow, standIns := [], harness := (true, "ac16a0017c75451fe73162a4db6ba956d9d5679ee2c9b3b224487920dcb2b042"), looks := false }, kinds := [], alts := [], laidByText := true, laidKinds := [.data, .data], laidTests := true, laidLooks := .later }
def GrowChoosesUptoCardSaid : Prop := Claim7.holds Tryz.pinned (.plain (OpenSpec.upto growChoosesSpec)) growChoosesUptoCard

/-- THE SECOND FORM's CARD OF 'larderlaw09.GrowSplits'. -/
def growSplitsUptoCard : Claim7 := { stood := { row := growSplitsUptoRow, standIns := [], harness := (true, "ac16a0017c75451fe73162a4db6ba956d9d5679ee2c9b3b224487920dcb2b042"), looks := false }, kinds := [], alts := [], laidByText := true, laidKinds := [.data, .data], laidTests := true, laidLooks := .later }
def GrowSplitsUptoCardSaid : Prop := Claim7.holds Tryz.pinned (.plain (OpenSpec.upto growSplitsSpec)) growSplitsUptoCard

/-- THE SECOND FORM's CARD OF 'larderlaw09.GrowPrunes'. -/
def growPrunesUptoCard : Claim7 := { stood := { row := growPrunesUptoRow, standIns := [], harness := (true, "ac16a0017c75451fe73162a4db6ba956d9d5679ee2c9b3b224487920dcb2b042"), looks := false }, kinds := [], alts := [], laidByText := true, laidKinds := [.data, .data], laidTests := true, laidLooks := .later }
def GrowPrunesUptoCardSaid : Prop := Claim7.holds Tryz.pinned (.plain (OpenSpec.upto growPrunesSpec)) growPrunesUptoCard

/-- THE SECOND FORM's CARD OF 'larderlaw09.GrowRooms'. -/
def growRoomsUptoCard : Claim7 := { stood := { row := growRoomsUptoRow, standIns := [], harness := (true, "ac16a0017c75451fe73162a4db6ba956d9d5679ee2c9b3b224487920dcb2b042"), looks := false }, kinds := [], alts := [], laidByText := true, laidKinds := [.data, .data], laidTests := true, laidLooks := .later }
def GrowRoomsUptoCardSaid : Prop := Claim7.holds Tryz.pinned (.plain (OpenSpec.upto growRoomsSpec)) growRoomsUptoCard
end Rows
end Go.Proofs.YtmdangoaomppdaaGreatDoor
