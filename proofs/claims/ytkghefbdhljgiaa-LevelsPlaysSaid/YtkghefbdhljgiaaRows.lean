/-
  No cell of these rows narrows 'for every input' (looked for: loops, veiled, ifaces, maps, wideKeys, modest, calm, conditions, laid).
  DERIVED. THE GIVEN ROWS OF THIS SEAT. 11 by the template 'for every input the law returns true; each argument reads behind the call as it read before'; 0 by the template 'total and deterministic' (their statements: YtkghefbdhljgiaaTotals.lean).
  GIVEN WITH THE SEED: the statements are not yours to turn. If you find one false, say at which input.
  Laid BY PROGRAM, IN A SANDBOX (cutbox-rows.mjs): the forced cells as the released guide's own fill.sh prints them over the translation 55356f2af63352b1… (all of the seat's roots in one cut). By AI agents, Wed Nov 11 2026. No macro, syntax, notation, axiom, sorry.
-/
import Derived.Test.YtkghefbdhljgiaaChecked
import GoSem.Claim
import GoSem.ClaimJoined
import GoSem.ClaimMapViews
import Derived.JoinedTies
import Derived.KernelRfl
namespace Go.Proofs.Ytkghefbdhljgiaa
/- THE CELL 'sum', in the pinned program and in every row, IS THE sha256 OF THE DUMP (.gsa) THAT YtkghefbdhljgiaaProg.lean LOADS. Nothing in Lean hashes anything: it is a label: what it is worth is what the hold of that sum in a sandbox is worth. -/
noncomputable def Try.pinned : Pinned := { name := "ytkghefbdhljgiaa", sum := "55356f2af63352b1f60e71fd928d783e87ea20a06179347acdcf13182d501b05", checked := Try.checked }
namespace Rows
def none {H : Type} : Left H := { results := [], args := [] }

/-- 'quietuslaw9.LevelsRuns': WHATEVER THE INPUT: true; the input reads as it did. -/
def levelsRunsSpec : ChangeSpec := { name := "levelsRuns", fn := fun _ => fun
  | [] => { results := [.lit (.bool true)], args := [] }
  | _ => none }
def levelsRunsRow : OpenClaim := { program := "ytkghefbdhljgiaa", sum := "55356f2af63352b1f60e71fd928d783e87ea20a06179347acdcf13182d501b05", func := "quietus/quietuslaw9.LevelsRuns", spec := "levelsRuns", unfollowed := true, recurses := true, apart := false }
def LevelsRunsSaid : Prop := levelsRunsRow.holds Try.pinned (OpenSpec.ofChange levelsRunsSpec)

/-- ITS FALSE NEIGHBOUR: 'it returns false'. Refute it at one input. -/
def levelsRunsWrong : ChangeSpec := { name := "levelsRuns", fn := fun _ => fun
  | [] => { results := [.lit (.bool false)], args := [] }
  | _ => none }
def LevelsRunsWrongFalsely : Prop := levelsRunsRow.holds Try.pinned (OpenSpec.ofChange levelsRunsWrong)

/-- 'quietuslaw9.LevelsDrop': WHATEVER THE INPUT: true; the input reads as it did. -/
def levelsDropSpec : ChangeSpec := { name := "levelsDrop", fn := fun _ => fun
  | [d1, d2, d3] => { results := [.lit (.bool true)], args := [d1, d2, d3] }
  | _ => none }
def levelsDropRow : OpenClaim := { program := "ytkghefbdhljgiaa", sum := "55356f2af63352b1f60e71fd928d783e87ea20a06179347acdcf13182d501b05", func := "quietus/quietuslaw9.LevelsDrop", spec := "levelsDrop", unfollowed := true, recurses := true, apart := false }
def LevelsDropSaid : Prop := levelsDropRow.holds Try.pinned (OpenSpec.ofChange levelsDropSpec)

/-- ITS FALSE NEIGHBOUR: 'it returns false'. Refute it at one input. -/
def levelsDropWrong : ChangeSpec := { name := "levelsDrop", fn := fun _ => fun
  | [d1, d2, d3] => { results := [.lit (.bool false)], args := [d1, d2, d3] }
  | _ => none }
def LevelsDropWrongFalsely : Prop := levelsDropRow.holds Try.pinned (OpenSpec.ofChange levelsDropWrong)

/-- 'quietuslaw9.LevelsKeep': WHATEVER THE INPUT: true; the input reads as it did. -/
def levelsKeepSpec : ChangeSpec := { name := "levelsKeep", fn := fun _ => fun
  | [d1, d2, d3] => { results := [.lit (.bool true)], args := [d1, d2, d3] }
  | _ => none }
def levelsKeepRow : OpenClaim := { program := "ytkghefbdhljgiaa", sum := "55356f2af63352b1f60e71fd928d783e87ea20a06179347acdcf13182d501b05", func := "quietus/quietuslaw9.LevelsKeep", spec := "levelsKeep", unfollowed := true, recurses := true, apart := false }
def LevelsKeepSaid : Prop := levelsKeepRow.holds Try.pinned (OpenSpec.ofChange levelsKeepSpec)

/-- ITS FALSE NEIGHBOUR: 'it returns false'. Refute it at one input. -/
def levelsKeepWrong : ChangeSpec := { name := "levelsKeep", fn := fun _ => fun
  | [d1, d2, d3] => { results := [.lit (.bool false)], args := [d1, d2, d3] }
  | _ => none }
def LevelsKeepWrongFalsely : Prop := levelsKeepRow.holds Try.pinned (OpenSpec.ofChange levelsKeepWrong)

/-- 'quietuslaw9.LevelsDeep': WHATEVER THE INPUT: true; the input reads as it did. -/
def levelsDeepSpec : ChangeSpec := { name := "levelsDeep", fn := fun _ => fun
  | [d1, d2] => { results := [.lit (.bool true)], args := [d1, d2] }
  | _ => none }
def levelsDeepRow : OpenClaim := { program := "ytkghefbdhljgiaa", sum := "55356f2af63352b1f60e71fd928d783e87ea20a06179347acdcf13182d501b05", func := "quietus/quietuslaw9.LevelsDeep", spec := "levelsDeep", unfollowed := true, recurses := true, apart := false }
def LevelsDeepSaid : Prop := levelsDeepRow.holds Try.pinned (OpenSpec.ofChange levelsDeepSpec)

/-- ITS FALSE NEIGHBOUR: 'it returns false'. Refute it at one input. -/
def levelsDeepWrong : ChangeSpec := { name := "levelsDeep", fn := fun _ => fun
  | [d1, d2] => { results := [.lit (.bool false)], args := [d1, d2] }
  | _ => none }
def LevelsDeepWrongFalsely : Prop := levelsDeepRow.holds Try.pinned (OpenSpec.ofChange levelsDeepWrong)

/-- 'quietuslaw9.LevelsRoom': WHATEVER THE INPUT: true; the input reads as it did. -/
def levelsRoomSpec : ChangeSpec := { name := "levelsRoom", fn := fun _ => fun
  | [d1, d2] => { results := [.lit (.bool true)], args := [d1, d2] }
  | _ => none }
def levelsRoomRow : OpenClaim := { program := "ytkghefbdhljgiaa", sum := "55356f2af63352b1f60e71fd928d783e87ea20a06179347acdcf13182d501b05", func := "quietus/quietuslaw9.LevelsRoom", spec := "levelsRoom", unfollowed := true, recurses := true, apart := false }
def LevelsRoomSaid : Prop := levelsRoomRow.holds Try.pinned (OpenSpec.ofChange levelsRoomSpec)

/-- ITS FALSE NEIGHBOUR: 'it returns false'. Refute it at one input. -/
def levelsRoomWrong : ChangeSpec := { name := "levelsRoom", fn := fun _ => fun
  | [d1, d2] => { results := [.lit (.bool false)], args := [d1, d2] }
  | _ => none }
def LevelsRoomWrongFalsely : Prop := levelsRoomRow.holds Try.pinned (OpenSpec.ofChange levelsRoomWrong)

/-- 'quietuslaw9.LevelsPlays': WHATEVER THE INPUT: true; the input reads as it did. -/
def levelsPlaysSpec : ChangeSpec := { name := "levelsPlays", fn := fun _ => fun
  | [d1, d2] => { results := [.lit (.bool true)], args := [d1, d2] }
  | _ => none }
def levelsPlaysRow : OpenClaim := { program := "ytkghefbdhljgiaa", sum := "55356f2af63352b1f60e71fd928d783e87ea20a06179347acdcf13182d501b05", func := "quietus/quietuslaw9.LevelsPlays", spec := "levelsPlays", unfollowed := true, recurses := true, apart := false }
def LevelsPlaysSaid : Prop := levelsPlaysRow.holds Try.pinned (OpenSpec.ofChange levelsPlaysSpec)

/-- ITS FALSE NEIGHBOUR: 'it returns false'. Refute it at one input. -/
def levelsPlaysWrong : ChangeSpec := { name := "levelsPlays", fn := fun _ => fun
  | [d1, d2] => { results := [.lit (.bool false)], args := [d1, d2] }
  | _ => none }
def LevelsPlaysWrongFalsely : Prop := levelsPlaysRow.holds Try.pinned (OpenSpec.ofChange levelsPlaysWrong)

/-- 'quietuslaw6.MemRuns': WHATEVER THE INPUT: true; the input reads as it did. -/
def memRunsSpec : ChangeSpec := { name := "memRuns", fn := fun _ => fun
  | [] => { results := [.lit (.bool true)], args := [] }
  | _ => none }
def memRunsRow : OpenClaim := { program := "ytkghefbdhljgiaa", sum := "55356f2af63352b1f60e71fd928d783e87ea20a06179347acdcf13182d501b05", func := "quietus/quietuslaw6.MemRuns", spec := "memRuns", apart := false }
def MemRunsSaid : Prop := memRunsRow.holds Try.pinned (OpenSpec.ofChange memRunsSpec)

/-- ITS FALSE NEIGHBOUR: 'it returns false'. Refute it at one input. -/
def memRunsWrong : ChangeSpec := { name := "memRuns", fn := fun _ => fun
  | [] => { results := [.lit (.bool false)], args := [] }
  | _ => none }
def MemRunsWrongFalsely : Prop := memRunsRow.holds Try.pinned (OpenSpec.ofChange memRunsWrong)

/-- 'quietuslaw6.MemStripes': WHATEVER THE INPUT: true; the input reads as it did. -/
def memStripesSpec : ChangeSpec := { name := "memStripes", fn := fun _ => fun
  | [d1, d2] => { results := [.lit (.bool true)], args := [d1, d2] }
  | _ => none }
def memStripesRow : OpenClaim := { program := "ytkghefbdhljgiaa", sum := "55356f2af63352b1f60e71fd928d783e87ea20a06179347acdcf13182d501b05", func := "quietus/quietuslaw6.MemStripes", spec := "memStripes", apart := false }
def MemStripesSaid : Prop := memStripesRow.holds Try.pinned (OpenSpec.ofChange memStripesSpec)

/-- ITS FALSE NEIGHBOUR: 'it returns false'. Refute it at one input. -/
def memStripesWrong : ChangeSpec := { name := "memStripes", fn := fun _ => fun
  | [d1, d2] => { results := [.lit (.bool false)], args := [d1, d2] }
  | _ => none }
def MemStripesWrongFalsely : Prop := memStripesRow.holds Try.pinned (OpenSpec.ofChange memStripesWrong)

/-- 'quietuslaw6.MemPlays': WHATEVER THE INPUT: true; the input reads as it did. -/
def memPlaysSpec : ChangeSpec := { name := "memPlays", fn := fun _ => fun
  | [d1, d2, d3] => { results := [.lit (.bool true)], args := [d1, d2, d3] }
  | _ => none }
def memPlaysRow : OpenClaim := { program := "ytkghefbdhljgiaa", sum := "55356f2af63352b1f60e71fd928d783e87ea20a06179347acdcf13182d501b05", func := "quietus/quietuslaw6.MemPlays", spec := "memPlays", apart := false }
def MemPlaysSaid : Prop := memPlaysRow.holds Try.pinned (OpenSpec.ofChange memPlaysSpec)

/-- ITS FALSE NEIGHBOUR: 'it returns false'. Refute it at one input. -/
def memPlaysWrong : ChangeSpec := { name := "memPlays", fn := fun _ => fun
  | [d1, d2, d3] => { results := [.lit (.bool false)], args := [d1, d2, d3] }
  | _ => none }
def MemPlaysWrongFalsely : Prop := memPlaysRow.holds Try.pinned (OpenSpec.ofChange memPlaysWrong)

/-- 'quietuslaw6.MemApart': WHATEVER THE INPUT: true; the input reads as it did. -/
def memApartSpec : ChangeSpec := { name := "memApart", fn := fun _ => fun
  | [d1, d2, d3] => { results := [.lit (.bool true)], args := [d1, d2, d3] }
  | _ => none }
def memApartRow : OpenClaim := { program := "ytkghefbdhljgiaa", sum := "55356f2af63352b1f60e71fd928d783e87ea20a06179347acdcf13182d501b05", func := "quietus/quietuslaw6.MemApart", spec := "memApart", apart := false }
def MemApartSaid : Prop := memApartRow.holds Try.pinned (OpenSpec.ofChange memApartSpec)

/-- ITS FALSE NEIGHBOUR: 'it returns false'. Refute it at one input. -/
def memApartWrong : ChangeSpec := { name := "memApart", fn := fun _ => fun
  | [d1, d2, d3] => { results := [.lit (.bool false)], args := [d1, d2, d3] }
  | _ => none }
def MemApartWrongFalsely : Prop := memApartRow.holds Try.pinned (OpenSpec.ofChange memApartWrong)

/-- 'quietuslaw6.MemCopies': WHATEVER THE INPUT: true; the input reads as it did. -/
def memCopiesSpec : ChangeSpec := { name := "memCopies", fn := fun _ => fun
  | [d1, d2, d3, d4] => { results := [.lit (.bool true)], args := [d1, d2, d3, d4] }
  | _ => none }
def memCopiesRow : OpenClaim := { program := "ytkghefbdhljgiaa", sum := "55356f2af63352b1f60e71fd928d783e87ea20a06179347acdcf13182d501b05", func := "quietus/quietuslaw6.MemCopies", spec := "memCopies", apart := false }
def MemCopiesSaid : Prop := memCopiesRow.holds Try.pinned (OpenSpec.ofChange memCopiesSpec)

/-- ITS FALSE NEIGHBOUR: 'it returns false'. Refute it at one input. -/
def memCopiesWrong : ChangeSpec := { name := "memCopies", fn := fun _ => fun
  | [d1, d2, d3, d4] => { results := [.lit (.bool false)], args := [d1, d2, d3, d4] }
  | _ => none }
def MemCopiesWrongFalsely : Prop := memCopiesRow.holds Try.pinned (OpenSpec.ofChange memCopiesWrong)

/- THE SECOND FORM. 'bulk': how many values and letters a reading holds, each counted each time it is reached (what is shared counts as often as it is met; a slice's spare places count too). A statement '..UptoSaid' is the law's where the arguments, and the package variables that the reading takes, are together of bulk at most 1048576: NARROWER than '..Said'. Prove '..Said' where nothing that the law and all that it calls make is longer than what came in: it says more and counts as full. Else prove '..UptoSaid'. A law counts once. -/
mutual
def uptoBulk {H : Type} : DataW H → Nat
  | .lit (.string bytes) => bytes.length + 1
  | .lit _ => 1
  | .nil => 1
  | .ptr d => uptoBulk d + 1
  | .slice elems spare => uptoBulkAll elems + uptoBulkAll spare + 1
  | .agg parts => uptoBulkAll parts + 1
  | .iface _ d => uptoBulk d + 1
  | .map entries => uptoBulkEntries entries + 1
  | .held _ => 1
def uptoBulkAll {H : Type} : List (DataW H) → Nat
  | [] => 0
  | d :: r => uptoBulk d + uptoBulkAll r
def uptoBulkEntries {H : Type} : List (Lit × DataW H) → Nat
  | [] => 0
  | x :: r => uptoBulkEntry x + uptoBulkEntries r
def uptoBulkEntry {H : Type} : Lit × DataW H → Nat
  | (.string bytes, d) => bytes.length + uptoBulk d + 1
  | (_, d) => uptoBulk d + 1
 end
def uptoSmall : (H : Type) → List (DataW H) → Bool := fun _ ds => decide (uptoBulkAll ds ≤ 1048576)
def OpenSpec.upto (s : _root_.Go.ChangeSpec) : _root_.Go.OpenSpec := { _root_.Go.OpenSpec.ofChange s with cond := some uptoSmall }

/-- 'quietuslaw9.LevelsRuns', WHERE WHAT IT READS IS OF BULK AT MOST 1048576: true; the input reads as it did. -/
def levelsRunsUptoRow : OpenClaim := { program := "ytkghefbdhljgiaa", sum := "55356f2af63352b1f60e71fd928d783e87ea20a06179347acdcf13182d501b05", func := "quietus/quietuslaw9.LevelsRuns", spec := "levelsRuns", unfollowed := true, recurses := true, apart := false, narrowed := true }
def LevelsRunsUptoSaid : Prop := levelsRunsUptoRow.holds Try.pinned (OpenSpec.upto levelsRunsSpec)

/-- 'quietuslaw9.LevelsDrop', WHERE WHAT IT READS IS OF BULK AT MOST 1048576: true; the input reads as it did. -/
def levelsDropUptoRow : OpenClaim := { program := "ytkghefbdhljgiaa", sum := "55356f2af63352b1f60e71fd928d783e87ea20a06179347acdcf13182d501b05", func := "quietus/quietuslaw9.LevelsDrop", spec := "levelsDrop", unfollowed := true, recurses := true, apart := false, narrowed := true }
def LevelsDropUptoSaid : Prop := levelsDropUptoRow.holds Try.pinned (OpenSpec.upto levelsDropSpec)

/-- 'quietuslaw9.LevelsKeep', WHERE WHAT IT READS IS OF BULK AT MOST 1048576: true; the input reads as it did. -/
def levelsKeepUptoRow : OpenClaim := { program := "ytkghefbdhljgiaa", sum := "55356f2af63352b1f60e71fd928d783e87ea20a06179347acdcf13182d501b05", func := "quietus/quietuslaw9.LevelsKeep", spec := "levelsKeep", unfollowed := true, recurses := true, apart := false, narrowed := true }
def LevelsKeepUptoSaid : Prop := levelsKeepUptoRow.holds Try.pinned (OpenSpec.upto levelsKeepSpec)

/-- 'quietuslaw9.LevelsDeep', WHERE WHAT IT READS IS OF BULK AT MOST 1048576: true; the input reads as it did. -/
def levelsDeepUptoRow : OpenClaim := { program := "ytkghefbdhljgiaa", sum := "55356f2af63352b1f60e71fd928d783e87ea20a06179347acdcf13182d501b05", func := "quietus/quietuslaw9.LevelsDeep", spec := "levelsDeep", unfollowed := true, recurses := true, apart := false, narrowed := true }
def LevelsDeepUptoSaid : Prop := levelsDeepUptoRow.holds Try.pinned (OpenSpec.upto levelsDeepSpec)

/-- 'quietuslaw9.LevelsRoom', WHERE WHAT IT READS IS OF BULK AT MOST 1048576: true; the input reads as it did. -/
def levelsRoomUptoRow : OpenClaim := { program := "ytkghefbdhljgiaa", sum := "55356f2af63352b1f60e71fd928d783e87ea20a06179347acdcf13182d501b05", func := "quietus/quietuslaw9.LevelsRoom", spec := "levelsRoom", unfollowed := true, recurses := true, apart := false, narrowed := true }
def LevelsRoomUptoSaid : Prop := levelsRoomUptoRow.holds Try.pinned (OpenSpec.upto levelsRoomSpec)

/-- 'quietuslaw9.LevelsPlays', WHERE WHAT IT READS IS OF BULK AT MOST 1048576: true; the input reads as it did. -/
def levelsPlaysUptoRow : OpenClaim := { program := "ytkghefbdhljgiaa", sum := "55356f2af63352b1f60e71fd928d783e87ea20a06179347acdcf13182d501b05", func := "quietus/quietuslaw9.LevelsPlays", spec := "levelsPlays", unfollowed := true, recurses := true, apart := false, narrowed := true }
def LevelsPlaysUptoSaid : Prop := levelsPlaysUptoRow.holds Try.pinned (OpenSpec.upto levelsPlaysSpec)

/-- 'quietuslaw6.MemRuns', WHERE WHAT IT READS IS OF BULK AT MOST 1048576: true; the input reads as it did. -/
def memRunsUptoRow : OpenClaim := { program := "ytkghefbdhljgiaa", sum := "55356f2af63352b1f60e71fd928d783e87ea20a06179347acdcf13182d501b05", func := "quietus/quietuslaw6.MemRuns", spec := "memRuns", apart := false, narrowed := true }
def MemRunsUptoSaid : Prop := memRunsUptoRow.holds Try.pinned (OpenSpec.upto memRunsSpec)

/-- 'quietuslaw6.MemStripes', WHERE WHAT IT READS IS OF BULK AT MOST 1048576: true; the input reads as it did. -/
def memStripesUptoRow : OpenClaim := { program := "ytkghefbdhljgiaa", sum := "55356f2af63352b1f60e71fd928d783e87ea20a06179347acdcf13182d501b05", func := "quietus/quietuslaw6.MemStripes", spec := "memStripes", apart := false, narrowed := true }
def MemStripesUptoSaid : Prop := memStripesUptoRow.holds Try.pinned (OpenSpec.upto memStripesSpec)

/-- 'quietuslaw6.MemPlays', WHERE WHAT IT READS IS OF BULK AT MOST 1048576: true; the input reads as it did. -/
def memPlaysUptoRow : OpenClaim := { program := "ytkghefbdhljgiaa", sum := "55356f2af63352b1f60e71fd928d783e87ea20a06179347acdcf13182d501b05", func := "quietus/quietuslaw6.MemPlays", spec := "memPlays", apart := false, narrowed := true }
def MemPlaysUptoSaid : Prop := memPlaysUptoRow.holds Try.pinned (OpenSpec.upto memPlaysSpec)

/-- 'quietuslaw6.MemApart', WHERE WHAT IT READS IS OF BULK AT MOST 1048576: true; the input reads as it did. -/
def memApartUptoRow : OpenClaim := { program := "ytkghefbdhljgiaa", sum := "55356f2af63352b1f60e71fd928d783e87ea20a06179347acdcf13182d501b05", func := "quietus/quietuslaw6.MemApart", spec := "memApart", apart := false, narrowed := true }
def MemApartUptoSaid : Prop := memApartUptoRow.holds Try.pinned (OpenSpec.upto memApartSpec)

/-- 'quietuslaw6.MemCopies', WHERE WHAT IT READS IS OF BULK AT MOST 1048576: true; the input reads as it did. -/
def memCopiesUptoRow : OpenClaim := { program := "ytkghefbdhljgiaa", sum := "55356f2af63352b1f60e71fd928d783e87ea20a06179347acdcf13182d501b05", func := "quietus/quietuslaw6.MemCopies", spec := "memCopies", apart := false, narrowed := true }
def MemCopiesUptoSaid : Prop := memCopiesUptoRow.holds Try.pinned (OpenSpec.upto memCopiesSpec)

end Rows
end Go.Proofs.Ytkghefbdhljgiaa
