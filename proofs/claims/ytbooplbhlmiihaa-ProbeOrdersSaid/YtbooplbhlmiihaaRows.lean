/-
  No cell of these rows narrows 'for every input' (looked for: loops, veiled, ifaces, maps, wideKeys, modest, calm, conditions, laid).
  DERIVED. THE GIVEN ROWS OF THIS SEAT. 7 by the template 'for every input the law returns true; each argument reads behind the call as it read before'; 0 by the template 'total and deterministic' (their statements: YtbooplbhlmiihaaTotals.lean).
  GIVEN WITH THE SEED: the statements are not yours to turn. If you find one false, say at which input.
  Laid BY PROGRAM, IN A SANDBOX (cutbox-rows.mjs): the forced cells as the released guide's own fill.sh prints them over the translation 51fcf02e9e8c85dd… (all of the seat's roots in one cut). By AI agents, Wed Nov 11 2026. No macro, syntax, notation, axiom, sorry.
-/
import Derived.Test.YtbooplbhlmiihaaChecked
import GoSem.Claim
import GoSem.ClaimJoined
import GoSem.ClaimMapViews
import Derived.JoinedTies
import Derived.KernelRfl
namespace Go.Proofs.Ytbooplbhlmiihaa
/- THE CELL 'sum', in the pinned program and in every row, IS THE sha256 OF THE DUMP (.gsa) THAT YtbooplbhlmiihaaProg.lean LOADS. Nothing in Lean hashes anything: it is a label: what it is worth is what the hold of that sum in a sandbox is worth. -/
noncomputable def Try.pinned : Pinned := { name := "ytbooplbhlmiihaa", sum := "51fcf02e9e8c85dda568ef4db49feb4cb8b816cfa0c5368de627d17b38d968e4", checked := Try.checked }
namespace Rows
def none {H : Type} : Left H := { results := [], args := [] }

/-- 'larderlaw07.ProbeTriangle': WHATEVER THE INPUT: true; the input reads as it did. -/
def probeTriangleSpec : ChangeSpec := { name := "probeTriangle", fn := fun _ => fun
  | [d1, d2, d3] => { results := [.lit (.bool true)], args := [d1, d2, d3] }
  | _ => none }
def probeTriangleRow : OpenClaim := { program := "ytbooplbhlmiihaa", sum := "51fcf02e9e8c85dda568ef4db49feb4cb8b816cfa0c5368de627d17b38d968e4", func := "larder/larderlaw07.ProbeTriangle", spec := "probeTriangle", apart := false }
def ProbeTriangleSaid : Prop := probeTriangleRow.holds Try.pinned (OpenSpec.ofChange probeTriangleSpec)

/-- ITS FALSE NEIGHBOUR: 'it returns false'. Refute it at one input. -/
def probeTriangleWrong : ChangeSpec := { name := "probeTriangle", fn := fun _ => fun
  | [d1, d2, d3] => { results := [.lit (.bool false)], args := [d1, d2, d3] }
  | _ => none }
def ProbeTriangleWrongFalsely : Prop := probeTriangleRow.holds Try.pinned (OpenSpec.ofChange probeTriangleWrong)

/-- 'larderlaw07.ProbeOrders': WHATEVER THE INPUT: true; the input reads as it did. -/
def probeOrdersSpec : ChangeSpec := { name := "probeOrders", fn := fun _ => fun
  | [d1, d2, d3] => { results := [.lit (.bool true)], args := [d1, d2, d3] }
  | _ => none }
def probeOrdersRow : OpenClaim := { program := "ytbooplbhlmiihaa", sum := "51fcf02e9e8c85dda568ef4db49feb4cb8b816cfa0c5368de627d17b38d968e4", func := "larder/larderlaw07.ProbeOrders", spec := "probeOrders", unfollowed := true, recurses := true, apart := false }
def ProbeOrdersSaid : Prop := probeOrdersRow.holds Try.pinned (OpenSpec.ofChange probeOrdersSpec)

/-- ITS FALSE NEIGHBOUR: 'it returns false'. Refute it at one input. -/
def probeOrdersWrong : ChangeSpec := { name := "probeOrders", fn := fun _ => fun
  | [d1, d2, d3] => { results := [.lit (.bool false)], args := [d1, d2, d3] }
  | _ => none }
def ProbeOrdersWrongFalsely : Prop := probeOrdersRow.holds Try.pinned (OpenSpec.ofChange probeOrdersWrong)

/-- 'larderlaw07.ProbeOnce': WHATEVER THE INPUT: true; the input reads as it did. -/
def probeOnceSpec : ChangeSpec := { name := "probeOnce", fn := fun _ => fun
  | [d1, d2] => { results := [.lit (.bool true)], args := [d1, d2] }
  | _ => none }
def probeOnceRow : OpenClaim := { program := "ytbooplbhlmiihaa", sum := "51fcf02e9e8c85dda568ef4db49feb4cb8b816cfa0c5368de627d17b38d968e4", func := "larder/larderlaw07.ProbeOnce", spec := "probeOnce", unfollowed := true, recurses := true, apart := false }
def ProbeOnceSaid : Prop := probeOnceRow.holds Try.pinned (OpenSpec.ofChange probeOnceSpec)

/-- ITS FALSE NEIGHBOUR: 'it returns false'. Refute it at one input. -/
def probeOnceWrong : ChangeSpec := { name := "probeOnce", fn := fun _ => fun
  | [d1, d2] => { results := [.lit (.bool false)], args := [d1, d2] }
  | _ => none }
def ProbeOnceWrongFalsely : Prop := probeOnceRow.holds Try.pinned (OpenSpec.ofChange probeOnceWrong)

/-- 'larderlaw07.ProbeSteps': WHATEVER THE INPUT: true; the input reads as it did. -/
def probeStepsSpec : ChangeSpec := { name := "probeSteps", fn := fun _ => fun
  | [d1, d2, d3, d4] => { results := [.lit (.bool true)], args := [d1, d2, d3, d4] }
  | _ => none }
def probeStepsRow : OpenClaim := { program := "ytbooplbhlmiihaa", sum := "51fcf02e9e8c85dda568ef4db49feb4cb8b816cfa0c5368de627d17b38d968e4", func := "larder/larderlaw07.ProbeSteps", spec := "probeSteps", unfollowed := true, recurses := true, apart := false }
def ProbeStepsSaid : Prop := probeStepsRow.holds Try.pinned (OpenSpec.ofChange probeStepsSpec)

/-- ITS FALSE NEIGHBOUR: 'it returns false'. Refute it at one input. -/
def probeStepsWrong : ChangeSpec := { name := "probeSteps", fn := fun _ => fun
  | [d1, d2, d3, d4] => { results := [.lit (.bool false)], args := [d1, d2, d3, d4] }
  | _ => none }
def ProbeStepsWrongFalsely : Prop := probeStepsRow.holds Try.pinned (OpenSpec.ofChange probeStepsWrong)

/-- 'larderlaw07.ProbeBack': WHATEVER THE INPUT: true; the input reads as it did. -/
def probeBackSpec : ChangeSpec := { name := "probeBack", fn := fun _ => fun
  | [d1, d2, d3, d4] => { results := [.lit (.bool true)], args := [d1, d2, d3, d4] }
  | _ => none }
def probeBackRow : OpenClaim := { program := "ytbooplbhlmiihaa", sum := "51fcf02e9e8c85dda568ef4db49feb4cb8b816cfa0c5368de627d17b38d968e4", func := "larder/larderlaw07.ProbeBack", spec := "probeBack", unfollowed := true, recurses := true, apart := false }
def ProbeBackSaid : Prop := probeBackRow.holds Try.pinned (OpenSpec.ofChange probeBackSpec)

/-- ITS FALSE NEIGHBOUR: 'it returns false'. Refute it at one input. -/
def probeBackWrong : ChangeSpec := { name := "probeBack", fn := fun _ => fun
  | [d1, d2, d3, d4] => { results := [.lit (.bool false)], args := [d1, d2, d3, d4] }
  | _ => none }
def ProbeBackWrongFalsely : Prop := probeBackRow.holds Try.pinned (OpenSpec.ofChange probeBackWrong)

/-- 'larderlaw07.ProbeSizes': WHATEVER THE INPUT: true; the input reads as it did. -/
def probeSizesSpec : ChangeSpec := { name := "probeSizes", fn := fun _ => fun
  | [d1, d2] => { results := [.lit (.bool true)], args := [d1, d2] }
  | _ => none }
def probeSizesRow : OpenClaim := { program := "ytbooplbhlmiihaa", sum := "51fcf02e9e8c85dda568ef4db49feb4cb8b816cfa0c5368de627d17b38d968e4", func := "larder/larderlaw07.ProbeSizes", spec := "probeSizes", apart := false }
def ProbeSizesSaid : Prop := probeSizesRow.holds Try.pinned (OpenSpec.ofChange probeSizesSpec)

/-- ITS FALSE NEIGHBOUR: 'it returns false'. Refute it at one input. -/
def probeSizesWrong : ChangeSpec := { name := "probeSizes", fn := fun _ => fun
  | [d1, d2] => { results := [.lit (.bool false)], args := [d1, d2] }
  | _ => none }
def ProbeSizesWrongFalsely : Prop := probeSizesRow.holds Try.pinned (OpenSpec.ofChange probeSizesWrong)

/-- 'larderlaw07.ProbeLeast': WHATEVER THE INPUT: true; the input reads as it did. -/
def probeLeastSpec : ChangeSpec := { name := "probeLeast", fn := fun _ => fun
  | [d] => { results := [.lit (.bool true)], args := [d] }
  | _ => none }
def probeLeastRow : OpenClaim := { program := "ytbooplbhlmiihaa", sum := "51fcf02e9e8c85dda568ef4db49feb4cb8b816cfa0c5368de627d17b38d968e4", func := "larder/larderlaw07.ProbeLeast", spec := "probeLeast", apart := false }
def ProbeLeastSaid : Prop := probeLeastRow.holds Try.pinned (OpenSpec.ofChange probeLeastSpec)

/-- ITS FALSE NEIGHBOUR: 'it returns false'. Refute it at one input. -/
def probeLeastWrong : ChangeSpec := { name := "probeLeast", fn := fun _ => fun
  | [d] => { results := [.lit (.bool false)], args := [d] }
  | _ => none }
def ProbeLeastWrongFalsely : Prop := probeLeastRow.holds Try.pinned (OpenSpec.ofChange probeLeastWrong)

/- THE SECOND FORM. 'bulk': how many values and letters a reading holds, each counted each time it is reached (what is shared counts as often as it is met; a slice's spare places count too). A statement '..UptoSaid' is the law's where the arguments, and the package variables that the reading takes, are together of bulk at most 1048576: NARROWER than '..Said'. Prove '..Said' where nothing that the law and all that it calls make is longer than what came in: it says more and counts as full. Else prove '..UptoSaid'. A law counts once. -/
mutual
def uptoBulk {H : Type} : DataW H → Nat
  | .lit (.string bytes) => bytes.length + 1
  | .lit _ => 1
  | .nil => 1
  | .ptr d => uptoBulk d + 1
  | .slice elems spare => uptoBulkAll elems + uptoBulkAll spare + 1
  | .agg parts => uptoBulkAll parts + 1
  | .iface _ d => uptoBulk d + 1
  | .map entries => uptoBulkEntries entries + 1
  | .held _ => 1
def uptoBulkAll {H : Type} : List (DataW H) → Nat
  | [] => 0
  | d :: r => uptoBulk d + uptoBulkAll r
def uptoBulkEntries {H : Type} : List (Lit × DataW H) → Nat
  | [] => 0
  | x :: r => uptoBulkEntry x + uptoBulkEntries r
def uptoBulkEntry {H : Type} : Lit × DataW H → Nat
  | (.string bytes, d) => bytes.length + uptoBulk d + 1
  | (_, d) => uptoBulk d + 1
 end
def uptoSmall : (H : Type) → List (DataW H) → Bool := fun _ ds => decide (uptoBulkAll ds ≤ 1048576)
def OpenSpec.upto (s : _root_.Go.ChangeSpec) : _root_.Go.OpenSpec := { _root_.Go.OpenSpec.ofChange s with cond := some uptoSmall }

/-- 'larderlaw07.ProbeTriangle', WHERE WHAT IT READS IS OF BULK AT MOST 1048576: true; the input reads as it did. -/
def probeTriangleUptoRow : OpenClaim := { program := "ytbooplbhlmiihaa", sum := "51fcf02e9e8c85dda568ef4db49feb4cb8b816cfa0c5368de627d17b38d968e4", func := "larder/larderlaw07.ProbeTriangle", spec := "probeTriangle", apart := false, narrowed := true }
def ProbeTriangleUptoSaid : Prop := probeTriangleUptoRow.holds Try.pinned (OpenSpec.upto probeTriangleSpec)

/-- 'larderlaw07.ProbeOrders', WHERE WHAT IT READS IS OF BULK AT MOST 1048576: true; the input reads as it did. -/
def probeOrdersUptoRow : OpenClaim := { program := "ytbooplbhlmiihaa", sum := "51fcf02e9e8c85dda568ef4db49feb4cb8b816cfa0c5368de627d17b38d968e4", func := "larder/larderlaw07.ProbeOrders", spec := "probeOrders", unfollowed := true, recurses := true, apart := false, narrowed := true }
def ProbeOrdersUptoSaid : Prop := probeOrdersUptoRow.holds Try.pinned (OpenSpec.upto probeOrdersSpec)

/-- 'larderlaw07.ProbeOnce', WHERE WHAT IT READS IS OF BULK AT MOST 1048576: true; the input reads as it did. -/
def probeOnceUptoRow : OpenClaim := { program := "ytbooplbhlmiihaa", sum := "51fcf02e9e8c85dda568ef4db49feb4cb8b816cfa0c5368de627d17b38d968e4", func := "larder/larderlaw07.ProbeOnce", spec := "probeOnce", unfollowed := true, recurses := true, apart := false, narrowed := true }
def ProbeOnceUptoSaid : Prop := probeOnceUptoRow.holds Try.pinned (OpenSpec.upto probeOnceSpec)

/-- 'larderlaw07.ProbeSteps', WHERE WHAT IT READS IS OF BULK AT MOST 1048576: true; the input reads as it did. -/
def probeStepsUptoRow : OpenClaim := { program := "ytbooplbhlmiihaa", sum := "51fcf02e9e8c85dda568ef4db49feb4cb8b816cfa0c5368de627d17b38d968e4", func := "larder/larderlaw07.ProbeSteps", spec := "probeSteps", unfollowed := true, recurses := true, apart := false, narrowed := true }
def ProbeStepsUptoSaid : Prop := probeStepsUptoRow.holds Try.pinned (OpenSpec.upto probeStepsSpec)

/-- 'larderlaw07.ProbeBack', WHERE WHAT IT READS IS OF BULK AT MOST 1048576: true; the input reads as it did. -/
def probeBackUptoRow : OpenClaim := { program := "ytbooplbhlmiihaa", sum := "51fcf02e9e8c85dda568ef4db49feb4cb8b816cfa0c5368de627d17b38d968e4", func := "larder/larderlaw07.ProbeBack", spec := "probeBack", unfollowed := true, recurses := true, apart := false, narrowed := true }
def ProbeBackUptoSaid : Prop := probeBackUptoRow.holds Try.pinned (OpenSpec.upto probeBackSpec)

/-- 'larderlaw07.ProbeSizes', WHERE WHAT IT READS IS OF BULK AT MOST 1048576: true; the input reads as it did. -/
def probeSizesUptoRow : OpenClaim := { program := "ytbooplbhlmiihaa", sum := "51fcf02e9e8c85dda568ef4db49feb4cb8b816cfa0c5368de627d17b38d968e4", func := "larder/larderlaw07.ProbeSizes", spec := "probeSizes", apart := false, narrowed := true }
def ProbeSizesUptoSaid : Prop := probeSizesUptoRow.holds Try.pinned (OpenSpec.upto probeSizesSpec)

/-- 'larderlaw07.ProbeLeast', WHERE WHAT IT READS IS OF BULK AT MOST 1048576: true; the input reads as it did. -/
def probeLeastUptoRow : OpenClaim := { program := "ytbooplbhlmiihaa", sum := "51fcf02e9e8c85dda568ef4db49feb4cb8b816cfa0c5368de627d17b38d968e4", func := "larder/larderlaw07.ProbeLeast", spec := "probeLeast", apart := false, narrowed := true }
def ProbeLeastUptoSaid : Prop := probeLeastUptoRow.holds Try.pinned (OpenSpec.upto probeLeastSpec)

end Rows
end Go.Proofs.Ytbooplbhlmiihaa
