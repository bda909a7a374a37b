/-
  No cell of these rows narrows 'for every input' (looked for: loops, veiled, ifaces, maps, wideKeys, modest, calm, conditions, laid).
  DERIVED. THE GIVEN ROWS OF THIS SEAT. 10 by the template 'for every input the law returns true; each argument reads behind the call as it read before'; 0 by the template 'total and deterministic' (their statements: YtlgdcfocnaifbaaTotals.lean).
  GIVEN WITH THE SEED: the statements are not yours to turn. If you find one false, say at which input.
  Laid BY PROGRAM, IN A SANDBOX (cutbox-rows.mjs): the forced cells as the released guide's own fill.sh prints them over the translation 391711573330d14d… (all of the seat's roots in one cut). By AI agents, Wed Nov 11 2026. No macro, syntax, notation, axiom, sorry.
-/
import Derived.Test.YtlgdcfocnaifbaaChecked
import GoSem.Claim
import GoSem.ClaimJoined
import GoSem.ClaimMapViews
import Derived.JoinedTies
import Derived.KernelRfl
namespace Go.Proofs.Ytlgdcfocnaifbaa
/- THE CELL 'sum', in the pinned program and in every row, IS THE sha256 OF THE DUMP (.gsa) THAT YtlgdcfocnaifbaaProg.lean LOADS. Nothing in Lean hashes anything: it is a label: what it is worth is what the hold of that sum in a sandbox is worth. -/
noncomputable def Try.pinned : Pinned := { name := "ytlgdcfocnaifbaa", sum := "391711573330d14d85ab267e1a6be2658b82caee01f4c14df7a32682360633ce", checked := Try.checked }
namespace Rows
def none {H : Type} : Left H := { results := [], args := [] }

/-- 'quietuslaw10.ViewRuns': WHATEVER THE INPUT: true; the input reads as it did. -/
def viewRunsSpec : ChangeSpec := { name := "viewRuns", fn := fun _ => fun
  | [] => { results := [.lit (.bool true)], args := [] }
  | _ => none }
def viewRunsRow : OpenClaim := { program := "ytlgdcfocnaifbaa", sum := "391711573330d14d85ab267e1a6be2658b82caee01f4c14df7a32682360633ce", func := "quietus/quietuslaw10.ViewRuns", spec := "viewRuns", unfollowed := true, recurses := true, apart := false }
def ViewRunsSaid : Prop := viewRunsRow.holds Try.pinned (OpenSpec.ofChange viewRunsSpec)

/-- ITS FALSE NEIGHBOUR: 'it returns false'. Refute it at one input. -/
def viewRunsWrong : ChangeSpec := { name := "viewRuns", fn := fun _ => fun
  | [] => { results := [.lit (.bool false)], args := [] }
  | _ => none }
def ViewRunsWrongFalsely : Prop := viewRunsRow.holds Try.pinned (OpenSpec.ofChange viewRunsWrong)

/-- 'quietuslaw10.ViewStale': WHATEVER THE INPUT: true; the input reads as it did. -/
def viewStaleSpec : ChangeSpec := { name := "viewStale", fn := fun _ => fun
  | [d1, d2, d3] => { results := [.lit (.bool true)], args := [d1, d2, d3] }
  | _ => none }
def viewStaleRow : OpenClaim := { program := "ytlgdcfocnaifbaa", sum := "391711573330d14d85ab267e1a6be2658b82caee01f4c14df7a32682360633ce", func := "quietus/quietuslaw10.ViewStale", spec := "viewStale", unfollowed := true, recurses := true, apart := false }
def ViewStaleSaid : Prop := viewStaleRow.holds Try.pinned (OpenSpec.ofChange viewStaleSpec)

/-- ITS FALSE NEIGHBOUR: 'it returns false'. Refute it at one input. -/
def viewStaleWrong : ChangeSpec := { name := "viewStale", fn := fun _ => fun
  | [d1, d2, d3] => { results := [.lit (.bool false)], args := [d1, d2, d3] }
  | _ => none }
def ViewStaleWrongFalsely : Prop := viewStaleRow.holds Try.pinned (OpenSpec.ofChange viewStaleWrong)

/-- 'quietuslaw10.ViewReads': WHATEVER THE INPUT: true; the input reads as it did. -/
def viewReadsSpec : ChangeSpec := { name := "viewReads", fn := fun _ => fun
  | [d1, d2, d3, d4, d5] => { results := [.lit (.bool true)], args := [d1, d2, d3, d4, d5] }
  | _ => none }
def viewReadsRow : OpenClaim := { program := "ytlgdcfocnaifbaa", sum := "391711573330d14d85ab267e1a6be2658b82caee01f4c14df7a32682360633ce", func := "quietus/quietuslaw10.ViewReads", spec := "viewReads", unfollowed := true, recurses := true, apart := false }
def ViewReadsSaid : Prop := viewReadsRow.holds Try.pinned (OpenSpec.ofChange viewReadsSpec)

/-- ITS FALSE NEIGHBOUR: 'it returns false'. Refute it at one input. -/
def viewReadsWrong : ChangeSpec := { name := "viewReads", fn := fun _ => fun
  | [d1, d2, d3, d4, d5] => { results := [.lit (.bool false)], args := [d1, d2, d3, d4, d5] }
  | _ => none }
def ViewReadsWrongFalsely : Prop := viewReadsRow.holds Try.pinned (OpenSpec.ofChange viewReadsWrong)

/-- 'quietuslaw10.ViewPlays': WHATEVER THE INPUT: true; the input reads as it did. -/
def viewPlaysSpec : ChangeSpec := { name := "viewPlays", fn := fun _ => fun
  | [d1, d2, d3] => { results := [.lit (.bool true)], args := [d1, d2, d3] }
  | _ => none }
def viewPlaysRow : OpenClaim := { program := "ytlgdcfocnaifbaa", sum := "391711573330d14d85ab267e1a6be2658b82caee01f4c14df7a32682360633ce", func := "quietus/quietuslaw10.ViewPlays", spec := "viewPlays", unfollowed := true, recurses := true, apart := false }
def ViewPlaysSaid : Prop := viewPlaysRow.holds Try.pinned (OpenSpec.ofChange viewPlaysSpec)

/-- ITS FALSE NEIGHBOUR: 'it returns false'. Refute it at one input. -/
def viewPlaysWrong : ChangeSpec := { name := "viewPlays", fn := fun _ => fun
  | [d1, d2, d3] => { results := [.lit (.bool false)], args := [d1, d2, d3] }
  | _ => none }
def ViewPlaysWrongFalsely : Prop := viewPlaysRow.holds Try.pinned (OpenSpec.ofChange viewPlaysWrong)

/-- 'quietuslaw10.ViewWhole': WHATEVER THE INPUT: true; the input reads as it did. -/
def viewWholeSpec : ChangeSpec := { name := "viewWhole", fn := fun _ => fun
  | [d1, d2, d3] => { results := [.lit (.bool true)], args := [d1, d2, d3] }
  | _ => none }
def viewWholeRow : OpenClaim := { program := "ytlgdcfocnaifbaa", sum := "391711573330d14d85ab267e1a6be2658b82caee01f4c14df7a32682360633ce", func := "quietus/quietuslaw10.ViewWhole", spec := "viewWhole", unfollowed := true, recurses := true, apart := false }
def ViewWholeSaid : Prop := viewWholeRow.holds Try.pinned (OpenSpec.ofChange viewWholeSpec)

/-- ITS FALSE NEIGHBOUR: 'it returns false'. Refute it at one input. -/
def viewWholeWrong : ChangeSpec := { name := "viewWhole", fn := fun _ => fun
  | [d1, d2, d3] => { results := [.lit (.bool false)], args := [d1, d2, d3] }
  | _ => none }
def ViewWholeWrongFalsely : Prop := viewWholeRow.holds Try.pinned (OpenSpec.ofChange viewWholeWrong)

/-- 'quietuslaw8.WritesRuns': WHATEVER THE INPUT: true; the input reads as it did. -/
def writesRunsSpec : ChangeSpec := { name := "writesRuns", fn := fun _ => fun
  | [] => { results := [.lit (.bool true)], args := [] }
  | _ => none }
def writesRunsRow : OpenClaim := { program := "ytlgdcfocnaifbaa", sum := "391711573330d14d85ab267e1a6be2658b82caee01f4c14df7a32682360633ce", func := "quietus/quietuslaw8.WritesRuns", spec := "writesRuns", unfollowed := true, recurses := true, apart := false }
def WritesRunsSaid : Prop := writesRunsRow.holds Try.pinned (OpenSpec.ofChange writesRunsSpec)

/-- ITS FALSE NEIGHBOUR: 'it returns false'. Refute it at one input. -/
def writesRunsWrong : ChangeSpec := { name := "writesRuns", fn := fun _ => fun
  | [] => { results := [.lit (.bool false)], args := [] }
  | _ => none }
def WritesRunsWrongFalsely : Prop := writesRunsRow.holds Try.pinned (OpenSpec.ofChange writesRunsWrong)

/-- 'quietuslaw8.WritesStripes': WHATEVER THE INPUT: true; the input reads as it did. -/
def writesStripesSpec : ChangeSpec := { name := "writesStripes", fn := fun _ => fun
  | [d1, d2, d3, d4] => { results := [.lit (.bool true)], args := [d1, d2, d3, d4] }
  | _ => none }
def writesStripesRow : OpenClaim := { program := "ytlgdcfocnaifbaa", sum := "391711573330d14d85ab267e1a6be2658b82caee01f4c14df7a32682360633ce", func := "quietus/quietuslaw8.WritesStripes", spec := "writesStripes", unfollowed := true, recurses := true, apart := false }
def WritesStripesSaid : Prop := writesStripesRow.holds Try.pinned (OpenSpec.ofChange writesStripesSpec)

/-- ITS FALSE NEIGHBOUR: 'it returns false'. Refute it at one input. -/
def writesStripesWrong : ChangeSpec := { name := "writesStripes", fn := fun _ => fun
  | [d1, d2, d3, d4] => { results := [.lit (.bool false)], args := [d1, d2, d3, d4] }
  | _ => none }
def WritesStripesWrongFalsely : Prop := writesStripesRow.holds Try.pinned (OpenSpec.ofChange writesStripesWrong)

/-- 'quietuslaw8.WritesLast': WHATEVER THE INPUT: true; the input reads as it did. -/
def writesLastSpec : ChangeSpec := { name := "writesLast", fn := fun _ => fun
  | [d1, d2] => { results := [.lit (.bool true)], args := [d1, d2] }
  | _ => none }
def writesLastRow : OpenClaim := { program := "ytlgdcfocnaifbaa", sum := "391711573330d14d85ab267e1a6be2658b82caee01f4c14df7a32682360633ce", func := "quietus/quietuslaw8.WritesLast", spec := "writesLast", unfollowed := true, recurses := true, apart := false }
def WritesLastSaid : Prop := writesLastRow.holds Try.pinned (OpenSpec.ofChange writesLastSpec)

/-- ITS FALSE NEIGHBOUR: 'it returns false'. Refute it at one input. -/
def writesLastWrong : ChangeSpec := { name := "writesLast", fn := fun _ => fun
  | [d1, d2] => { results := [.lit (.bool false)], args := [d1, d2] }
  | _ => none }
def WritesLastWrongFalsely : Prop := writesLastRow.holds Try.pinned (OpenSpec.ofChange writesLastWrong)

/-- 'quietuslaw8.WritesPlays': WHATEVER THE INPUT: true; the input reads as it did. -/
def writesPlaysSpec : ChangeSpec := { name := "writesPlays", fn := fun _ => fun
  | [d1, d2] => { results := [.lit (.bool true)], args := [d1, d2] }
  | _ => none }
def writesPlaysRow : OpenClaim := { program := "ytlgdcfocnaifbaa", sum := "391711573330d14d85ab267e1a6be2658b82caee01f4c14df7a32682360633ce", func := "quietus/quietuslaw8.WritesPlays", spec := "writesPlays", unfollowed := true, recurses := true, apart := false }
def WritesPlaysSaid : Prop := writesPlaysRow.holds Try.pinned (OpenSpec.ofChange writesPlaysSpec)

/-- ITS FALSE NEIGHBOUR: 'it returns false'. Refute it at one input. -/
def writesPlaysWrong : ChangeSpec := { name := "writesPlays", fn := fun _ => fun
  | [d1, d2] => { results := [.lit (.bool false)], args := [d1, d2] }
  | _ => none }
def WritesPlaysWrongFalsely : Prop := writesPlaysRow.holds Try.pinned (OpenSpec.ofChange writesPlaysWrong)

/-- 'quietuslaw8.WritesWhole': WHATEVER THE INPUT: true; the input reads as it did. -/
def writesWholeSpec : ChangeSpec := { name := "writesWhole", fn := fun _ => fun
  | [d1, d2, d3] => { results := [.lit (.bool true)], args := [d1, d2, d3] }
  | _ => none }
def writesWholeRow : OpenClaim := { program := "ytlgdcfocnaifbaa", sum := "391711573330d14d85ab267e1a6be2658b82caee01f4c14df7a32682360633ce", func := "quietus/quietuslaw8.WritesWhole", spec := "writesWhole", unfollowed := true, recurses := true, apart := false }
def WritesWholeSaid : Prop := writesWholeRow.holds Try.pinned (OpenSpec.ofChange writesWholeSpec)

/-- ITS FALSE NEIGHBOUR: 'it returns false'. Refute it at one input. -/
def writesWholeWrong : ChangeSpec := { name := "writesWhole", fn := fun _ => fun
  | [d1, d2, d3] => { results := [.lit (.bool false)], args := [d1, d2, d3] }
  | _ => none }
def WritesWholeWrongFalsely : Prop := writesWholeRow.holds Try.pinned (OpenSpec.ofChange writesWholeWrong)

/- THE SECOND FORM. 'bulk': how many values and letters a reading holds, each counted each time it is reached (what is shared counts as often as it is met; a slice's spare places count too). A statement '..UptoSaid' is the law's where the arguments, and the package variables that the reading takes, are together of bulk at most 1048576: NARROWER than '..Said'. Prove '..Said' where nothing that the law and all that it calls make is longer than what came in: it says more and counts as full. Else prove '..UptoSaid'. A law counts once. -/
mutual
def uptoBulk {H : Type} : DataW H → Nat
  | .lit (.string bytes) => bytes.length + 1
  | .lit _ => 1
  | .nil => 1
  | .ptr d => uptoBulk d + 1
  | .slice elems spare => uptoBulkAll elems + uptoBulkAll spare + 1
  | .agg parts => uptoBulkAll parts + 1
  | .iface _ d => uptoBulk d + 1
  | .map entries => uptoBulkEntries entries + 1
  | .held _ => 1
def uptoBulkAll {H : Type} : List (DataW H) → Nat
  | [] => 0
  | d :: r => uptoBulk d + uptoBulkAll r
def uptoBulkEntries {H : Type} : List (Lit × DataW H) → Nat
  | [] => 0
  | x :: r => uptoBulkEntry x + uptoBulkEntries r
def uptoBulkEntry {H : Type} : Lit × DataW H → Nat
  | (.string bytes, d) => bytes.length + uptoBulk d + 1
  | (_, d) => uptoBulk d + 1
 end
def uptoSmall : (H : Type) → List (DataW H) → Bool := fun _ ds => decide (uptoBulkAll ds ≤ 1048576)
def OpenSpec.upto (s : _root_.Go.ChangeSpec) : _root_.Go.OpenSpec := { _root_.Go.OpenSpec.ofChange s with cond := some uptoSmall }

/-- 'quietuslaw10.ViewRuns', WHERE WHAT IT READS IS OF BULK AT MOST 1048576: true; the input reads as it did. -/
def viewRunsUptoRow : OpenClaim := { program := "ytlgdcfocnaifbaa", sum := "391711573330d14d85ab267e1a6be2658b82caee01f4c14df7a32682360633ce", func := "quietus/quietuslaw10.ViewRuns", spec := "viewRuns", unfollowed := true, recurses := true, apart := false, narrowed := true }
def ViewRunsUptoSaid : Prop := viewRunsUptoRow.holds Try.pinned (OpenSpec.upto viewRunsSpec)

/-- 'quietuslaw10.ViewStale', WHERE WHAT IT READS IS OF BULK AT MOST 1048576: true; the input reads as it did. -/
def viewStaleUptoRow : OpenClaim := { program := "ytlgdcfocnaifbaa", sum := "391711573330d14d85ab267e1a6be2658b82caee01f4c14df7a32682360633ce", func := "quietus/quietuslaw10.ViewStale", spec := "viewStale", unfollowed := true, recurses := true, apart := false, narrowed := true }
def ViewStaleUptoSaid : Prop := viewStaleUptoRow.holds Try.pinned (OpenSpec.upto viewStaleSpec)

/-- 'quietuslaw10.ViewReads', WHERE WHAT IT READS IS OF BULK AT MOST 1048576: true; the input reads as it did. -/
def viewReadsUptoRow : OpenClaim := { program := "ytlgdcfocnaifbaa", sum := "391711573330d14d85ab267e1a6be2658b82caee01f4c14df7a32682360633ce", func := "quietus/quietuslaw10.ViewReads", spec := "viewReads", unfollowed := true, recurses := true, apart := false, narrowed := true }
def ViewReadsUptoSaid : Prop := viewReadsUptoRow.holds Try.pinned (OpenSpec.upto viewReadsSpec)

/-- 'quietuslaw10.ViewPlays', WHERE WHAT IT READS IS OF BULK AT MOST 1048576: true; the input reads as it did. -/
def viewPlaysUptoRow : OpenClaim := { program := "ytlgdcfocnaifbaa", sum := "391711573330d14d85ab267e1a6be2658b82caee01f4c14df7a32682360633ce", func := "quietus/quietuslaw10.ViewPlays", spec := "viewPlays", unfollowed := true, recurses := true, apart := false, narrowed := true }
def ViewPlaysUptoSaid : Prop := viewPlaysUptoRow.holds Try.pinned (OpenSpec.upto viewPlaysSpec)

/-- 'quietuslaw10.ViewWhole', WHERE WHAT IT READS IS OF BULK AT MOST 1048576: true; the input reads as it did. -/
def viewWholeUptoRow : OpenClaim := { program := "ytlgdcfocnaifbaa", sum := "391711573330d14d85ab267e1a6be2658b82caee01f4c14df7a32682360633ce", func := "quietus/quietuslaw10.ViewWhole", spec := "viewWhole", unfollowed := true, recurses := true, apart := false, narrowed := true }
def ViewWholeUptoSaid : Prop := viewWholeUptoRow.holds Try.pinned (OpenSpec.upto viewWholeSpec)

/-- 'quietuslaw8.WritesRuns', WHERE WHAT IT READS IS OF BULK AT MOST 1048576: true; the input reads as it did. -/
def writesRunsUptoRow : OpenClaim := { program := "ytlgdcfocnaifbaa", sum := "391711573330d14d85ab267e1a6be2658b82caee01f4c14df7a32682360633ce", func := "quietus/quietuslaw8.WritesRuns", spec := "writesRuns", unfollowed := true, recurses := true, apart := false, narrowed := true }
def WritesRunsUptoSaid : Prop := writesRunsUptoRow.holds Try.pinned (OpenSpec.upto writesRunsSpec)

/-- 'quietuslaw8.WritesStripes', WHERE WHAT IT READS IS OF BULK AT MOST 1048576: true; the input reads as it did. -/
def writesStripesUptoRow : OpenClaim := { program := "ytlgdcfocnaifbaa", sum := "391711573330d14d85ab267e1a6be2658b82caee01f4c14df7a32682360633ce", func := "quietus/quietuslaw8.WritesStripes", spec := "writesStripes", unfollowed := true, recurses := true, apart := false, narrowed := true }
def WritesStripesUptoSaid : Prop := writesStripesUptoRow.holds Try.pinned (OpenSpec.upto writesStripesSpec)

/-- 'quietuslaw8.WritesLast', WHERE WHAT IT READS IS OF BULK AT MOST 1048576: true; the input reads as it did. -/
def writesLastUptoRow : OpenClaim := { program := "ytlgdcfocnaifbaa", sum := "391711573330d14d85ab267e1a6be2658b82caee01f4c14df7a32682360633ce", func := "quietus/quietuslaw8.WritesLast", spec := "writesLast", unfollowed := true, recurses := true, apart := false, narrowed := true }
def WritesLastUptoSaid : Prop := writesLastUptoRow.holds Try.pinned (OpenSpec.upto writesLastSpec)

/-- 'quietuslaw8.WritesPlays', WHERE WHAT IT READS IS OF BULK AT MOST 1048576: true; the input reads as it did. -/
def writesPlaysUptoRow : OpenClaim := { program := "ytlgdcfocnaifbaa", sum := "391711573330d14d85ab267e1a6be2658b82caee01f4c14df7a32682360633ce", func := "quietus/quietuslaw8.WritesPlays", spec := "writesPlays", unfollowed := true, recurses := true, apart := false, narrowed := true }
def WritesPlaysUptoSaid : Prop := writesPlaysUptoRow.holds Try.pinned (OpenSpec.upto writesPlaysSpec)

/-- 'quietuslaw8.WritesWhole', WHERE WHAT IT READS IS OF BULK AT MOST 1048576: true; the input reads as it did. -/
def writesWholeUptoRow : OpenClaim := { program := "ytlgdcfocnaifbaa", sum := "391711573330d14d85ab267e1a6be2658b82caee01f4c14df7a32682360633ce", func := "quietus/quietuslaw8.WritesWhole", spec := "writesWhole", unfollowed := true, recurses := true, apart := false, narrowed := true }
def WritesWholeUptoSaid : Prop := writesWholeUptoRow.holds Try.pinned (OpenSpec.upto writesWholeSpec)

end Rows
end Go.Proofs.Ytlgdcfocnaifbaa
