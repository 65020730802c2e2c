/-
  DERIVED. GIVEN WITH THE SEED: THE CARDS: each row of YtepkcjfmdenkcaaGreatDoorRows.lean that lists a variable, with what it lists TIED to the program's text (the seventh form; the later family's looks); each row that meets fmt, with fmt's text TOLD by the authors' own Lean function (tested against real Go, not proved from fmt's source: count such statements apart). THE CARD IS WHAT COUNTS. Prove the row's statement (the work); the ties are given (YtepkcjfmdenkcaaGreatDoorTie.lean); close each card by the builder's one call (the guide's Derived/Test/ToyasCard.lean, 'card_holds'). Laid BY PROGRAM, IN A SANDBOX (cutbox-door.mjs). By AI agents, Wed Nov 11 2026. No macro, syntax, notation, axiom, sorry.
-/
import Derived.Test.YtepkcjfmdenkcaaGreatDoorRows
import GoSem.ClaimSeven
namespace Go.Proofs.YtepkcjfmdenkcaaGreatDoor
namespace Rows

/-- THE TIED CARD OF 'larderlaw11.SmallRanges'. -/
def smallRangesCard : Claim7 := { stood := { row := smallRangesRow, standIns := [], harness := (true, "32df1592afd0f4e0ba96bd572ebe57e7e9a5d6fe61d817c85cb18c5c33fb2455"), looks := false }, kinds := [], alts := [], laidByText := true, laidKinds := [.data, .data], laidTests := true, laidLooks := .later }
def SmallRangesCardSaid : Prop := Claim7.holds Tryz.pinned (.plain (OpenSpec.ofChange smallRangesSpec)) smallRangesCard

/-- THE TIED CARD OF 'larderlaw08.TableRanges'. -/
def tableRangesCard : Claim7 := { stood := { row := tableRangesRow, standIns := [], harness := (true, "32df1592afd0f4e0ba96bd572ebe57e7e9a5d6fe61d817c85cb18c5c33fb2455"), looks := false }, kinds := [], alts := [], laidByText := true, laidKinds := [.data], laidTests := true, laidLooks := .later }
def TableRangesCardSaid : Prop := Claim7.holds Tryz.pinned (.plain (OpenSpec.ofChange tableRangesSpec)) tableRangesCard

/-- THE SECOND FORM's CARD OF 'larderlaw11.SmallRanges'. -/
def smallRangesUptoCard : Claim7 := { stood := { row := smallRangesUptoRow, standIns := [], harness := (true, "32df1592afd0f4e0ba96bd572ebe57e7e9a5d6fe61d817c85cb18c5c33fb2455"), looks := false }, kinds := [], alts := [], laidByText := true, laidKinds := [.data, .data], laidTests := true, laidLooks := .later }
def SmallRangesUptoCardSaid : Prop := Claim7.holds Tryz.pinned (.plain (OpenSpec.upto smallRangesSpec)) smallRangesUptoCard

/-- THE SECOND FORM's CARD OF 'larderlaw08.TableRanges'. -/
def tableRangesUptoCard : Claim7 := { stood := { row := tableRangesUptoRow, standIns := [], harness := (true, "32df1592afd0f4e0ba96bd572ebe57e7e9a5d6fe61d817c85cb18c5c33fb2455"), looks := false }, kinds := [], alts := [], laidByText := true, laidKinds := [.data], laidTests := true, laidLooks := .later }
def TableRangesUptoCardSaid : Prop := Claim7.holds Tryz.pinned (.plain (OpenSpec.upto tableRangesSpec)) tableRangesUptoCard
end Rows
end Go.Proofs.YtepkcjfmdenkcaaGreatDoor
