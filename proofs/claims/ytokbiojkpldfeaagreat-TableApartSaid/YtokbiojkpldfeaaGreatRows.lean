/-
  No cell of these rows narrows 'for every input' (looked for: loops, veiled, ifaces, maps, wideKeys, modest, calm, conditions, laid).
  DERIVED. THE GIVEN ROWS OF THIS SEAT. 4 by the template 'for every input the law returns true; each argument reads behind the call as it read before'; 0 by the template 'total and deterministic' (their statements: YtokbiojkpldfeaaGreatTotals.lean).
  GIVEN WITH THE SEED: the statements are not yours to turn. If you find one false, say at which input.
  Laid BY PROGRAM, IN A SANDBOX (cutbox-rows.mjs): the forced cells as the released guide's own fill.sh prints them over the translation da9c77b2876f3817… (all of the seat's roots in one cut). By AI agents, Wed Nov 11 2026. No macro, syntax, notation, axiom, sorry.
-/
import Derived.Test.YtokbiojkpldfeaaGreatChecked
import GoSem.Claim
import GoSem.ClaimJoined
import GoSem.ClaimMapViews
import Derived.JoinedTies
import Derived.KernelRfl
namespace Go.Proofs.YtokbiojkpldfeaaGreat
/- THE CELL 'sum', in the pinned program and in every row, IS THE sha256 OF THE DUMP (.gsa) THAT YtokbiojkpldfeaaGreatProg.lean LOADS. Nothing in Lean hashes anything: it is a label: what it is worth is what the hold of that sum in a sandbox is worth. -/
noncomputable def Tryz.pinned : Pinned := { name := "ytokbiojkpldfeaagreat", sum := "da9c77b2876f381707097a29387959eb60366a1ed7b0429200c0f55f75e64d7b", checked := Tryz.checked }
namespace Rows
def none {H : Type} : Left H := { results := [], args := [] }

/-- 'quietuslaw25.CommitRaw': WHATEVER THE INPUT: true; the input reads as it did. -/
def commitRawSpec : ChangeSpec := { name := "commitRaw", fn := fun _ => fun
  | [d1, d2] => { results := [.lit (.bool true)], args := [d1, d2] }
  | _ => none }
def commitRawRow : OpenClaim := { program := "ytokbiojkpldfeaagreat", sum := "da9c77b2876f381707097a29387959eb60366a1ed7b0429200c0f55f75e64d7b", func := "quietus/quietuslaw25.CommitRaw", spec := "commitRaw", recurses := true, apart := false }
def CommitRawSaid : Prop := commitRawRow.holds Tryz.pinned (OpenSpec.ofChange commitRawSpec)

/-- ITS FALSE NEIGHBOUR: 'it returns false'. Refute it at one input. -/
def commitRawWrong : ChangeSpec := { name := "commitRaw", fn := fun _ => fun
  | [d1, d2] => { results := [.lit (.bool false)], args := [d1, d2] }
  | _ => none }
def CommitRawWrongFalsely : Prop := commitRawRow.holds Tryz.pinned (OpenSpec.ofChange commitRawWrong)

/-- 'quietuslaw18.TableNeeds': WHATEVER THE INPUT: true; the input reads as it did. -/
def tableNeedsSpec : ChangeSpec := { name := "tableNeeds", fn := fun _ => fun
  | [d1, d2] => { results := [.lit (.bool true)], args := [d1, d2] }
  | _ => none }
def tableNeedsRow : OpenClaim := { program := "ytokbiojkpldfeaagreat", sum := "da9c77b2876f381707097a29387959eb60366a1ed7b0429200c0f55f75e64d7b", func := "quietus/quietuslaw18.TableNeeds", spec := "tableNeeds", unfollowed := true, recurses := true, apart := false }
def TableNeedsSaid : Prop := tableNeedsRow.holds Tryz.pinned (OpenSpec.ofChange tableNeedsSpec)

/-- ITS FALSE NEIGHBOUR: 'it returns false'. Refute it at one input. -/
def tableNeedsWrong : ChangeSpec := { name := "tableNeeds", fn := fun _ => fun
  | [d1, d2] => { results := [.lit (.bool false)], args := [d1, d2] }
  | _ => none }
def TableNeedsWrongFalsely : Prop := tableNeedsRow.holds Tryz.pinned (OpenSpec.ofChange tableNeedsWrong)

/-- 'quietuslaw18.TableApart': WHATEVER THE INPUT: true; the input reads as it did. -/
def tableApartSpec : ChangeSpec := { name := "tableApart", fn := fun _ => fun
  | [d1, d2, d3] => { results := [.lit (.bool true)], args := [d1, d2, d3] }
  | _ => none }
def tableApartRow : OpenClaim := { program := "ytokbiojkpldfeaagreat", sum := "da9c77b2876f381707097a29387959eb60366a1ed7b0429200c0f55f75e64d7b", func := "quietus/quietuslaw18.TableApart", spec := "tableApart", unfollowed := true, recurses := true, apart := false }
def TableApartSaid : Prop := tableApartRow.holds Tryz.pinned (OpenSpec.ofChange tableApartSpec)

/-- ITS FALSE NEIGHBOUR: 'it returns false'. Refute it at one input. -/
def tableApartWrong : ChangeSpec := { name := "tableApart", fn := fun _ => fun
  | [d1, d2, d3] => { results := [.lit (.bool false)], args := [d1, d2, d3] }
  | _ => none }
def TableApartWrongFalsely : Prop := tableApartRow.holds Tryz.pinned (OpenSpec.ofChange tableApartWrong)

/-- 'quietuslaw18.TableBlocks': WHATEVER THE INPUT: true; the input reads as it did. -/
def tableBlocksSpec : ChangeSpec := { name := "tableBlocks", fn := fun _ => fun
  | [d1, d2] => { results := [.lit (.bool true)], args := [d1, d2] }
  | _ => none }
def tableBlocksRow : OpenClaim := { program := "ytokbiojkpldfeaagreat", sum := "da9c77b2876f381707097a29387959eb60366a1ed7b0429200c0f55f75e64d7b", func := "quietus/quietuslaw18.TableBlocks", spec := "tableBlocks", unfollowed := true, recurses := true, apart := false }
def TableBlocksSaid : Prop := tableBlocksRow.holds Tryz.pinned (OpenSpec.ofChange tableBlocksSpec)

/-- ITS FALSE NEIGHBOUR: 'it returns false'. Refute it at one input. -/
def tableBlocksWrong : ChangeSpec := { name := "tableBlocks", fn := fun _ => fun
  | [d1, d2] => { results := [.lit (.bool false)], args := [d1, d2] }
  | _ => none }
def TableBlocksWrongFalsely : Prop := tableBlocksRow.holds Tryz.pinned (OpenSpec.ofChange tableBlocksWrong)

/- THE SECOND FORM. 'bulk': how many values and letters a reading holds, each counted each time it is reached (what is shared counts as often as it is met; a slice's spare places count too). A statement '..UptoSaid' is the law's where the arguments, and the package variables that the reading takes, are together of bulk at most 1048576: NARROWER than '..Said'. Prove '..Said' where nothing that the law and all that it calls make is longer than what came in: it says more and counts as full. Else prove '..UptoSaid'. A law counts once. -/
mutual
def uptoBulk {H : Type} : DataW H → Nat
  | .lit (.string bytes) => bytes.length + 1
  | .lit _ => 1
  | .nil => 1
  | .ptr d => uptoBulk d + 1
  | .slice elems spare => uptoBulkAll elems + uptoBulkAll spare + 1
  | .agg parts => uptoBulkAll parts + 1
  | .iface _ d => uptoBulk d + 1
  | .map entries => uptoBulkEntries entries + 1
  | .held _ => 1
def uptoBulkAll {H : Type} : List (DataW H) → Nat
  | [] => 0
  | d :: r => uptoBulk d + uptoBulkAll r
def uptoBulkEntries {H : Type} : List (Lit × DataW H) → Nat
  | [] => 0
  | x :: r => uptoBulkEntry x + uptoBulkEntries r
def uptoBulkEntry {H : Type} : Lit × DataW H → Nat
  | (.string bytes, d) => bytes.length + uptoBulk d + 1
  | (_, d) => uptoBulk d + 1
 end
def uptoSmall : (H : Type) → List (DataW H) → Bool := fun _ ds => decide (uptoBulkAll ds ≤ 1048576)
def OpenSpec.upto (s : _root_.Go.ChangeSpec) : _root_.Go.OpenSpec := { _root_.Go.OpenSpec.ofChange s with cond := some uptoSmall }

/-- 'quietuslaw25.CommitRaw', WHERE WHAT IT READS IS OF BULK AT MOST 1048576: true; the input reads as it did. -/
def commitRawUptoRow : OpenClaim := { program := "ytokbiojkpldfeaagreat", sum := "da9c77b2876f381707097a29387959eb60366a1ed7b0429200c0f55f75e64d7b", func := "quietus/quietuslaw25.CommitRaw", spec := "commitRaw", recurses := true, apart := false, narrowed := true }
def CommitRawUptoSaid : Prop := commitRawUptoRow.holds Tryz.pinned (OpenSpec.upto commitRawSpec)

/-- 'quietuslaw18.TableNeeds', WHERE WHAT IT READS IS OF BULK AT MOST 1048576: true; the input reads as it did. -/
def tableNeedsUptoRow : OpenClaim := { program := "ytokbiojkpldfeaagreat", sum := "da9c77b2876f381707097a29387959eb60366a1ed7b0429200c0f55f75e64d7b", func := "quietus/quietuslaw18.TableNeeds", spec := "tableNeeds", unfollowed := true, recurses := true, apart := false, narrowed := true }
def TableNeedsUptoSaid : Prop := tableNeedsUptoRow.holds Tryz.pinned (OpenSpec.upto tableNeedsSpec)

/-- 'quietuslaw18.TableApart', WHERE WHAT IT READS IS OF BULK AT MOST 1048576: true; the input reads as it did. -/
def tableApartUptoRow : OpenClaim := { program := "ytokbiojkpldfeaagreat", sum := "da9c77b2876f381707097a29387959eb60366a1ed7b0429200c0f55f75e64d7b", func := "quietus/quietuslaw18.TableApart", spec := "tableApart", unfollowed := true, recurses := true, apart := false, narrowed := true }
def TableApartUptoSaid : Prop := tableApartUptoRow.holds Tryz.pinned (OpenSpec.upto tableApartSpec)

/-- 'quietuslaw18.TableBlocks', WHERE WHAT IT READS IS OF BULK AT MOST 1048576: true; the input reads as it did. -/
def tableBlocksUptoRow : OpenClaim := { program := "ytokbiojkpldfeaagreat", sum := "da9c77b2876f381707097a29387959eb60366a1ed7b0429200c0f55f75e64d7b", func := "quietus/quietuslaw18.TableBlocks", spec := "tableBlocks", unfollowed := true, recurses := true, apart := false, narrowed := true }
def TableBlocksUptoSaid : Prop := tableBlocksUptoRow.holds Tryz.pinned (OpenSpec.upto tableBlocksSpec)

end Rows
end Go.Proofs.YtokbiojkpldfeaaGreat
