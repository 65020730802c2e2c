/-
  DERIVED. GIVEN WITH THE SEED: THE CARDS: each row of YthdmlgnhmbobaaaGreatDoorRows.lean that lists a variable, with what it lists TIED to the program's text (the seventh form; the later family's looks); each row that meets fmt, with fmt's text TOLD by the authors' own Lean function (tested against real Go, not proved from fmt's source: count such statements apart). THE CARD IS WHAT COUNTS. Prove the row's statement (the work); the ties are given (YthdmlgnhmbobaaaGreatDoorTie.lean); close each card by the builder's one call (the guide's Derived/Test/ToyasCard.lean, 'card_holds'). Laid BY PROGRAM, IN A SANDBOX (cutbox-door.mjs). By AI agents, Wed Nov 11 2026. No macro, syntax, notation, axiom, sorry.
-/
import Derived.Test.YthdmlgnhmbobaaaGreatDoorRows
import GoSem.ClaimSeven
namespace Go.Proofs.YthdmlgnhmbobaaaGreatDoor
namespace Rows

/-- THE TIED CARD OF 'larderlaw11.SmallRanges'. -/
def smallRangesCard : Claim7 := { stood := { row := smallRangesRow, standIns := [], harness := (true, "c0da01d4c78212388332c2da936ec961ce9db0c1cf44f36086c48a9885cccfce"), looks := false }, kinds := [], alts := [], laidByText := true, laidKinds := [.data, .data], laidTests := true, laidLooks := .later }
def SmallRangesCardSaid : Prop := Claim7.holds Tryz.pinned (.plain (OpenSpec.ofChange smallRangesSpec)) smallRangesCard

/-- THE TIED CARD OF 'larderlaw08.TableHolds'. -/
def tableHoldsCard : Claim7 := { stood := { row := tableHoldsRow, standIns := [], harness := (true, "c0da01d4c78212388332c2da936ec961ce9db0c1cf44f36086c48a9885cccfce"), looks := false }, kinds := [], alts := [], laidByText := true, laidKinds := [.data], laidTests := true, laidLooks := .later }
def TableHoldsCardSaid : Prop := Claim7.holds Tryz.pinned (.plain (OpenSpec.ofChange tableHoldsSpec)) tableHoldsCard

/-- THE TIED CARD OF 'larderlaw08.TableSwaps'. -/
def tableSwapsCard : Claim7 := { stood := { row := tableSwapsRow, standIns := [], harness := (true, "c0da01d4c78212388332c2da936ec961ce9db0c1cf44f36086c48a9885cccfce"), looks := false }, kinds := [], alts := [], laidByText := true, laidKinds := [.data], laidTests := true, laidLooks := .later }
def TableSwapsCardSaid : Prop := Claim7.holds Tryz.pinned (.plain (OpenSpec.ofChange tableSwapsSpec)) tableSwapsCard

/-- THE TIED CARD OF 'larderlaw08.TableShape'. -/
def tableShapeCard : Claim7 := { stood := { row := tableShapeRow, standIns := [], harness := (true, "c0da01d4c78212388332c2da936ec961ce9db0c1cf44f36086c48a9885cccfce"), looks := false }, kinds := [], alts := [], laidByText := true, laidKinds := [.data], laidTests := true, laidLooks := .later }
def TableShapeCardSaid : Prop := Claim7.holds Tryz.pinned (.plain (OpenSpec.ofChange tableShapeSpec)) tableShapeCard

/-- THE TIED CARD OF 'larderlaw08.TableRanges'. -/
def tableRangesCard : Claim7 := { stood := { row := tableRangesRow, standIns := [], harness := (true, "c0da01d4c78212388332c2da936ec961ce9db0c1cf44f36086c48a9885cccfce"), looks := false }, kinds := [], alts := [], laidByText := true, laidKinds := [.data], laidTests := true, laidLooks := .later }
def TableRangesCardSaid : Prop := Claim7.holds Tryz.pinned (.plain (OpenSpec.ofChange tableRangesSpec)) tableRangesCard

/-- THE SECOND FORM's CARD OF 'larderlaw11.SmallRanges'. -/
def smallRangesUptoCard : Claim7 := { stood := { row := smallRangesUptoRow, standIns := [], harness := (true, "c0da01d4c78212388332c2da936ec961ce9db0c1cf44f36086c48a9885cccfce"), looks := false }, kinds := [], alts := [], laidByText := true, laidKinds := [.data, .data], laidTests := true, laidLooks := .later }
def SmallRangesUptoCardSaid : Prop := Claim7.holds Tryz.pinned (.plain (OpenSpec.upto smallRangesSpec)) smallRangesUptoCard

/-- THE SECOND FORM's CARD OF 'larderlaw08.TableHolds'. -/
def tableHoldsUptoCard : Claim7 := { stood := { row := tableHoldsUptoRow, standIns := [], harness := (true, "c0da01d4c78212388332c2da936ec961ce9db0c1cf44f36086c48a9885cccfce"), looks := false }, kinds := [], alts := [], laidByText := true, laidKinds := [.data], laidTests := true, laidLooks := .later }
def TableHoldsUptoCardSaid : Prop := Claim7.holds Tryz.pinned (.plain (OpenSpec.upto tableHoldsSpec)) tableHoldsUptoCard

/-- THE SECOND FORM's CARD OF 'larderlaw08.TableSwaps'. -/
def tableSwapsUptoCard : Claim7 := { stood := { row := tableSwapsUptoRow, standIns := [], harness := (true, "c0da01d4c78212388332c2da936ec961ce9db0c1cf44f36086c48a9885cccfce"), looks := false }, kinds := [], alts := [], laidByText := true, laidKinds := [.data], laidTests := true, laidLooks := .later }
def TableSwapsUptoCardSaid : Prop := Claim7.holds Tryz.pinned (.plain (OpenSpec.upto tableSwapsSpec)) tableSwapsUptoCard

/-- THE SECOND FORM's CARD OF 'larderlaw08.TableShape'. -/
def tableShapeUptoCard : Claim7 := { stood := { row := tableShapeUptoRow, standIns := [], harness := (true, "c0da01d4c78212388332c2da936ec961ce9db0c1cf44f36086c48a9885cccfce"), looks := false }, kinds := [], alts := [], laidByText := true, laidKinds := [.data], laidTests := true, laidLooks := .later }
def TableShapeUptoCardSaid : Prop := Claim7.holds Tryz.pinned (.plain (OpenSpec.upto tableShapeSpec)) tableShapeUptoCard

/-- THE SECOND FORM's CARD OF 'larderlaw08.TableRanges'. -/
def tableRangesUptoCard : Claim7 := { stood := { row := tableRangesUptoRow, standIns := [], harness := (true, "c0da01d4c78212388332c2da936ec961ce9db0c1cf44f36086c48a9885cccfce"), looks := false }, kinds := [], alts := [], laidByText := true, laidKinds := [.data], laidTests := true, laidLooks := .later }
def TableRangesUptoCardSaid : Prop := Claim7.holds Tryz.pinned (.plain (OpenSpec.upto tableRangesSpec)) tableRangesUptoCard
end Rows
end Go.Proofs.YthdmlgnhmbobaaaGreatDoor
