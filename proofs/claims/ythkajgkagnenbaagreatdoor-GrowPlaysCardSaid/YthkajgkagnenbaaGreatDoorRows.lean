/-
  NARROWER THAN 'FOR EVERY INPUT', by the rows' own cells (each row's printed sentence says how): TableBytes: laid · TableExact: laid · SmallBytes: laid · SmallExact: laid · GrowPlays: laid.
  DERIVED. THE GIVEN ROWS OF THIS SEAT. 5 by the template 'for every input the law returns true; each argument reads behind the call as it read before'; 0 by the template 'total and deterministic' (their statements: YthkajgkagnenbaaGreatDoorTotals.lean).
  GIVEN WITH THE SEED: the statements are not yours to turn. If you find one false, say at which input.
  Laid BY PROGRAM, IN A SANDBOX (cutbox-rows.mjs): the forced cells as the released guide's own fill.sh prints them over the translation 3e41f94d52a17e11… (all of the seat's roots in one cut). By AI agents, Wed Nov 11 2026. No macro, syntax, notation, axiom, sorry.
-/
import Derived.Test.YthkajgkagnenbaaGreatDoorChecked
import GoSem.Claim
import GoSem.ClaimJoined
import GoSem.ClaimMapViews
import Derived.JoinedTies
import Derived.KernelRfl
namespace Go.Proofs.YthkajgkagnenbaaGreatDoor
/- THE CELL 'sum', in the pinned program and in every row, IS THE sha256 OF THE DUMP (.gsa) THAT YthkajgkagnenbaaGreatDoorProg.lean LOADS. Nothing in Lean hashes anything: it is a label: what it is worth is what the hold of that sum in a sandbox is worth. -/
noncomputable def Tryz.pinned : Pinned := { name := "ythkajgkagnenbaagreatdoor", sum := "3e41f94d52a17e11315f54a70757c9089c205c1625b3c808a91cd365036a3fd4", checked := Tryz.checked }
namespace Rows
def none {H : Type} : Left H := { results := [], args := [] }

/- WHAT THE LISTED PACKAGE-LEVEL VARIABLES READ AS WHEN THE CALL BEGINS. Each datum BY PROGRAM (the guide's laid-datum.mjs) off the statement by which the dump's own 'gosem.cut.vars' lays the variable. In a bare row this is a premise. The card (YthkajgkagnenbaaGreatDoorCards.lean) ties it to the program's text. -/
def laid_math_bits_deBruijn64tab {H : Type} : DataW H := .agg [.lit (.int .u8 0), .lit (.int .u8 1), .lit (.int .u8 56), .lit (.int .u8 2), .lit (.int .u8 57), .lit (.int .u8 49), .lit (.int .u8 28), .lit (.int .u8 3), .lit (.int .u8 61), .lit (.int .u8 58), .lit (.int .u8 42), .lit (.int .u8 50), .lit (.int .u8 38), .lit (.int .u8 29), .lit (.int .u8 17), .lit (.int .u8 4), .lit (.int .u8 62), .lit (.int .u8 47), .lit (.int .u8 59), .lit (.int .u8 36), .lit (.int .u8 45), .lit (.int .u8 43), .lit (.int .u8 51), .lit (.int .u8 22), .lit (.int .u8 53), .lit (.int .u8 39), .lit (.int .u8 33), .lit (.int .u8 30), .lit (.int .u8 24), .lit (.int .u8 18), .lit (.int .u8 12), .lit (.int .u8 5), .lit (.int .u8 63), .lit (.int .u8 55), .lit (.int .u8 48), .lit (.int .u8 27), .lit (.int .u8 60), .lit (.int .u8 41), .lit (.int .u8 37), .lit (.int .u8 16), .lit (.int .u8 46), .lit (.int .u8 35), .lit (.int .u8 44), .lit (.int .u8 21), .lit (.int .u8 52), .lit (.int .u8 32), .lit (.int .u8 23), .lit (.int .u8 11), .lit (.int .u8 54), .lit (.int .u8 26), .lit (.int .u8 40), .lit (.int .u8 15), .lit (.int .u8 34), .lit (.int .u8 20), .lit (.int .u8 31), .lit (.int .u8 10), .lit (.int .u8 25), .lit (.int .u8 14), .lit (.int .u8 19), .lit (.int .u8 9), .lit (.int .u8 13), .lit (.int .u8 8), .lit (.int .u8 7), .lit (.int .u8 6)]
def laid_larder_oracle_odd {H : Type} : DataW H := .agg [.lit (.int .u64 13234230157428861123), .lit (.int .u64 11329751410908088055)]

/-- 'larderlaw08.TableBytes': WHATEVER THE INPUT: true; the input reads as it did. -/
def tableBytesSpec : ChangeSpec := { name := "tableBytes", fn := fun _ => fun
  | [d1, d2, d3] => { results := [.lit (.bool true)], args := [d1, d2, d3] }
  | _ => none }
def tableBytesRow : OpenClaim := { program := "ythkajgkagnenbaagreatdoor", sum := "3e41f94d52a17e11315f54a70757c9089c205c1625b3c808a91cd365036a3fd4", func := "larder/larderlaw08.TableBytes", spec := "tableBytes", inPlace := ["slices.overlaps[int]"], unfollowed := true, recurses := true, named := ["math/bits.deBruijn64tab"], apart := false, laid := [("math/bits.deBruijn64tab", laid_math_bits_deBruijn64tab)] }
def TableBytesSaid : Prop := tableBytesRow.holds Tryz.pinned (OpenSpec.ofChange tableBytesSpec)

/-- ITS FALSE NEIGHBOUR: 'it returns false'. Refute it at one input. -/
def tableBytesWrong : ChangeSpec := { name := "tableBytes", fn := fun _ => fun
  | [d1, d2, d3] => { results := [.lit (.bool false)], args := [d1, d2, d3] }
  | _ => none }
def TableBytesWrongFalsely : Prop := tableBytesRow.holds Tryz.pinned (OpenSpec.ofChange tableBytesWrong)

/-- 'larderlaw08.TableExact': WHATEVER THE INPUT: true; the input reads as it did. -/
def tableExactSpec : ChangeSpec := { name := "tableExact", fn := fun _ => fun
  | [d1, d2, d3] => { results := [.lit (.bool true)], args := [d1, d2, d3] }
  | _ => none }
def tableExactRow : OpenClaim := { program := "ythkajgkagnenbaagreatdoor", sum := "3e41f94d52a17e11315f54a70757c9089c205c1625b3c808a91cd365036a3fd4", func := "larder/larderlaw08.TableExact", spec := "tableExact", inPlace := ["slices.overlaps[int]"], unfollowed := true, recurses := true, named := ["math/bits.deBruijn64tab"], apart := false, laid := [("math/bits.deBruijn64tab", laid_math_bits_deBruijn64tab)] }
def TableExactSaid : Prop := tableExactRow.holds Tryz.pinned (OpenSpec.ofChange tableExactSpec)

/-- ITS FALSE NEIGHBOUR: 'it returns false'. Refute it at one input. -/
def tableExactWrong : ChangeSpec := { name := "tableExact", fn := fun _ => fun
  | [d1, d2, d3] => { results := [.lit (.bool false)], args := [d1, d2, d3] }
  | _ => none }
def TableExactWrongFalsely : Prop := tableExactRow.holds Tryz.pinned (OpenSpec.ofChange tableExactWrong)

/-- 'larderlaw11.SmallBytes': WHATEVER THE INPUT: true; the input reads as it did. -/
def smallBytesSpec : ChangeSpec := { name := "smallBytes", fn := fun _ => fun
  | [d1, d2] => { results := [.lit (.bool true)], args := [d1, d2] }
  | _ => none }
def smallBytesRow : OpenClaim := { program := "ythkajgkagnenbaagreatdoor", sum := "3e41f94d52a17e11315f54a70757c9089c205c1625b3c808a91cd365036a3fd4", func := "larder/larderlaw11.SmallBytes", spec := "smallBytes", inPlace := ["slices.overlaps[int]"], unfollowed := true, recurses := true, named := ["larder/oracle.odd", "math/bits.deBruijn64tab"], apart := false, laid := [("larder/oracle.odd", laid_larder_oracle_odd), ("math/bits.deBruijn64tab", laid_math_bits_deBruijn64tab)] }
def SmallBytesSaid : Prop := smallBytesRow.holds Tryz.pinned (OpenSpec.ofChange smallBytesSpec)

/-- ITS FALSE NEIGHBOUR: 'it returns false'. Refute it at one input. -/
def smallBytesWrong : ChangeSpec := { name := "smallBytes", fn := fun _ => fun
  | [d1, d2] => { results := [.lit (.bool false)], args := [d1, d2] }
  | _ => none }
def SmallBytesWrongFalsely : Prop := smallBytesRow.holds Tryz.pinned (OpenSpec.ofChange smallBytesWrong)

/-- 'larderlaw11.SmallExact': WHATEVER THE INPUT: true; the input reads as it did. -/
def smallExactSpec : ChangeSpec := { name := "smallExact", fn := fun _ => fun
  | [d1, d2] => { results := [.lit (.bool true)], args := [d1, d2] }
  | _ => none }
def smallExactRow : OpenClaim := { program := "ythkajgkagnenbaagreatdoor", sum := "3e41f94d52a17e11315f54a70757c9089c205c1625b3c808a91cd365036a3fd4", func := "larder/larderlaw11.SmallExact", spec := "smallExact", inPlace := ["slices.overlaps[int]"], unfollowed := true, recurses := true, named := ["larder/oracle.odd", "math/bits.deBruijn64tab"], apart := false, laid := [("larder/oracle.odd", laid_larder_oracle_odd), ("math/bits.deBruijn64tab", laid_math_bits_deBruijn64tab)] }
def SmallExactSaid : Prop := smallExactRow.holds Tryz.pinned (OpenSpec.ofChange smallExactSpec)

/-- ITS FALSE NEIGHBOUR: 'it returns false'. Refute it at one input. -/
def smallExactWrong : ChangeSpec := { name := "smallExact", fn := fun _ => fun
  | [d1, d2] => { results := [.lit (.bool false)], args := [d1, d2] }
  | _ => none }
def SmallExactWrongFalsely : Prop := smallExactRow.holds Tryz.pinned (OpenSpec.ofChange smallExactWrong)

/-- 'larderlaw09.GrowPlays': WHATEVER THE INPUT: true; the input reads as it did. -/
def growPlaysSpec : ChangeSpec := { name := "growPlays", fn := fun _ => fun
  | [d1, d2] => { results := [.lit (.bool true)], args := [d1, d2] }
  | _ => none }
def growPlaysRow : OpenClaim := { program := "ythkajgkagnenbaagreatdoor", sum := "3e41f94d52a17e11315f54a70757c9089c205c1625b3c808a91cd365036a3fd4", func := "larder/larderlaw09.GrowPlays", spec := "growPlays", inPlace := ["slices.overlaps[int]"], unfollowed := true, recurses := true, named := ["math/bits.deBruijn64tab", "larder/oracle.odd"], apart := false, laid := [("larder/oracle.odd", laid_larder_oracle_odd), ("math/bits.deBruijn64tab", laid_math_bits_deBruijn64tab)] }
def GrowPlaysSaid : Prop := growPlaysRow.holds Tryz.pinned (OpenSpec.ofChange growPlaysSpec)

/-- ITS FALSE NEIGHBOUR: 'it returns false'. Refute it at one input. -/
def growPlaysWrong : ChangeSpec := { name := "growPlays", fn := fun _ => fun
  | [d1, d2] => { results := [.lit (.bool false)], args := [d1, d2] }
  | _ => none }
def GrowPlaysWrongFalsely : Prop := growPlaysRow.holds Tryz.pinned (OpenSpec.ofChange growPlaysWrong)

/- THE SECOND FORM. 'bulk': how many values and letters a reading holds, each counted each time it is reached (what is shared counts as often as it is met; a slice's spare places count too). A statement '..UptoSaid' is the law's where the arguments, and the package variables that the reading takes, are together of bulk at most 1048576: NARROWER than '..Said'. Prove '..Said' where nothing that the law and all that it calls make is longer than what came in: it says more and counts as full. Else prove '..UptoSaid'. A law counts once. -/
mutual
def uptoBulk {H : Type} : DataW H → Nat
  | .lit (.string bytes) => bytes.length + 1
  | .lit _ => 1
  | .nil => 1
  | .ptr d => uptoBulk d + 1
  | .slice elems spare => uptoBulkAll elems + uptoBulkAll spare + 1
  | .agg parts => uptoBulkAll parts + 1
  | .iface _ d => uptoBulk d + 1
  | .map entries => uptoBulkEntries entries + 1
  | .held _ => 1
def uptoBulkAll {H : Type} : List (DataW H) → Nat
  | [] => 0
  | d :: r => uptoBulk d + uptoBulkAll r
def uptoBulkEntries {H : Type} : List (Lit × DataW H) → Nat
  | [] => 0
  | x :: r => uptoBulkEntry x + uptoBulkEntries r
def uptoBulkEntry {H : Type} : Lit × DataW H → Nat
  | (.string bytes, d) => bytes.length + uptoBulk d + 1
  | (_, d) => uptoBulk d + 1
 end
def uptoSmall : (H : Type) → List (DataW H) → Bool := fun _ ds => decide (uptoBulkAll ds ≤ 1048576)
def OpenSpec.upto (s : _root_.Go.ChangeSpec) : _root_.Go.OpenSpec := { _root_.Go.OpenSpec.ofChange s with cond := some uptoSmall }

/-- 'larderlaw08.TableBytes', WHERE WHAT IT READS IS OF BULK AT MOST 1048576: true; the input reads as it did. -/
def tableBytesUptoRow : OpenClaim := { program := "ythkajgkagnenbaagreatdoor", sum := "3e41f94d52a17e11315f54a70757c9089c205c1625b3c808a91cd365036a3fd4", func := "larder/larderlaw08.TableBytes", spec := "tableBytes", inPlace := ["slices.overlaps[int]"], unfollowed := true, recurses := true, named := ["math/bits.deBruijn64tab"], apart := false, laid := [("math/bits.deBruijn64tab", laid_math_bits_deBruijn64tab)], narrowed := true }
def TableBytesUptoSaid : Prop := tableBytesUptoRow.holds Tryz.pinned (OpenSpec.upto tableBytesSpec)

/-- 'larderlaw08.TableExact', WHERE WHAT IT READS IS OF BULK AT MOST 1048576: true; the input reads as it did. -/
def tableExactUptoRow : OpenClaim := { program := "ythkajgkagnenbaagreatdoor", sum := "3e41f94d52a17e11315f54a70757c9089c205c1625b3c808a91cd365036a3fd4", func := "larder/larderlaw08.TableExact", spec := "tableExact", inPlace := ["slices.overlaps[int]"], unfollowed := true, recurses := true, named := ["math/bits.deBruijn64tab"], apart := false, laid := [("math/bits.deBruijn64tab", laid_math_bits_deBruijn64tab)], narrowed := true }
def TableExactUptoSaid : Prop := tableExactUptoRow.holds Tryz.pinned (OpenSpec.upto tableExactSpec)

/-- 'larderlaw11.SmallBytes', WHERE WHAT IT READS IS OF BULK AT MOST 1048576: true; the input reads as it did. -/
def smallBytesUptoRow : OpenClaim := { program := "ythkajgkagnenbaagreatdoor", sum := "3e41f94d52a17e11315f54a70757c9089c205c1625b3c808a91cd365036a3fd4", func := "larder/larderlaw11.SmallBytes", spec := "smallBytes", inPlace := ["slices.overlaps[int]"], unfollowed := true, recurses := true, named := ["larder/oracle.odd", "math/bits.deBruijn64tab"], apart := false, laid := [("larder/oracle.odd", laid_larder_oracle_odd), ("math/bits.deBruijn64tab", laid_math_bits_deBruijn64tab)], narrowed := true }
def SmallBytesUptoSaid : Prop := smallBytesUptoRow.holds Tryz.pinned (OpenSpec.upto smallBytesSpec)

/-- 'larderlaw11.SmallExact', WHERE WHAT IT READS IS OF BULK AT MOST 1048576: true; the input reads as it did. -/
def smallExactUptoRow : OpenClaim := { program := "ythkajgkagnenbaagreatdoor", sum := "3e41f94d52a17e11315f54a70757c9089c205c1625b3c808a91cd365036a3fd4", func := "larder/larderlaw11.SmallExact", spec := "smallExact", inPlace := ["slices.overlaps[int]"], unfollowed := true, recurses := true, named := ["larder/oracle.odd", "math/bits.deBruijn64tab"], apart := false, laid := [("larder/oracle.odd", laid_larder_oracle_odd), ("math/bits.deBruijn64tab", laid_math_bits_deBruijn64tab)], narrowed := true }
def SmallExactUptoSaid : Prop := smallExactUptoRow.holds Tryz.pinned (OpenSpec.upto smallExactSpec)

/-- 'larderlaw09.GrowPlays', WHERE WHAT IT READS IS OF BULK AT MOST 1048576: true; the input reads as it did. -/
def growPlaysUptoRow : OpenClaim := { program := "ythkajgkagnenbaagreatdoor", sum := "3e41f94d52a17e11315f54a70757c9089c205c1625b3c808a91cd365036a3fd4", func := "larder/larderlaw09.GrowPlays", spec := "growPlays", inPlace := ["slices.overlaps[int]"], unfollowed := true, recurses := true, named := ["math/bits.deBruijn64tab", "larder/oracle.odd"], apart := false, laid := [("larder/oracle.odd", laid_larder_oracle_odd), ("math/bits.deBruijn64tab", laid_math_bits_deBruijn64tab)], narrowed := true }
def GrowPlaysUptoSaid : Prop := growPlaysUptoRow.holds Tryz.pinned (OpenSpec.upto growPlaysSpec)

end Rows
end Go.Proofs.YthkajgkagnenbaaGreatDoor
