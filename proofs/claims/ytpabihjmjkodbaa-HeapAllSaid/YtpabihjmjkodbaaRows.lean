/-
  No cell of these rows narrows 'for every input' (looked for: loops, veiled, ifaces, maps, wideKeys, modest, calm, conditions, laid).
  DERIVED. THE GIVEN ROWS OF THIS SEAT. 15 by the template 'for every input the law returns true; each argument reads behind the call as it read before'; 0 by the template 'total and deterministic' (their statements: YtpabihjmjkodbaaTotals.lean).
  GIVEN WITH THE SEED: the statements are not yours to turn. If you find one false, say at which input.
  Laid BY PROGRAM, IN A SANDBOX (cutbox-rows.mjs): the forced cells as the released guide's own fill.sh prints them over the translation ba5e7ffff12554b6… (all of the seat's roots in one cut). By AI agents, Wed Nov 11 2026. No macro, syntax, notation, axiom, sorry.
-/
import Derived.Test.YtpabihjmjkodbaaChecked
import GoSem.Claim
import GoSem.ClaimJoined
import GoSem.ClaimMapViews
import Derived.JoinedTies
import Derived.KernelRfl
namespace Go.Proofs.Ytpabihjmjkodbaa
/- THE CELL 'sum', in the pinned program and in every row, IS THE sha256 OF THE DUMP (.gsa) THAT YtpabihjmjkodbaaProg.lean LOADS. Nothing in Lean hashes anything: it is a label: what it is worth is what the hold of that sum in a sandbox is worth. -/
noncomputable def Try.pinned : Pinned := { name := "ytpabihjmjkodbaa", sum := "ba5e7ffff12554b609d272d19176a4b1d210f9452444203431fd1756c17abd00", checked := Try.checked }
namespace Rows
def none {H : Type} : Left H := { results := [], args := [] }

/-- 'quietuslaw2.HeapRuns': WHATEVER THE INPUT: true; the input reads as it did. -/
def heapRunsSpec : ChangeSpec := { name := "heapRuns", fn := fun _ => fun
  | [] => { results := [.lit (.bool true)], args := [] }
  | _ => none }
def heapRunsRow : OpenClaim := { program := "ytpabihjmjkodbaa", sum := "ba5e7ffff12554b609d272d19176a4b1d210f9452444203431fd1756c17abd00", func := "quietus/quietuslaw2.HeapRuns", spec := "heapRuns", apart := false }
def HeapRunsSaid : Prop := heapRunsRow.holds Try.pinned (OpenSpec.ofChange heapRunsSpec)

/-- ITS FALSE NEIGHBOUR: 'it returns false'. Refute it at one input. -/
def heapRunsWrong : ChangeSpec := { name := "heapRuns", fn := fun _ => fun
  | [] => { results := [.lit (.bool false)], args := [] }
  | _ => none }
def HeapRunsWrongFalsely : Prop := heapRunsRow.holds Try.pinned (OpenSpec.ofChange heapRunsWrong)

/-- 'quietuslaw2.HeapPlays': WHATEVER THE INPUT: true; the input reads as it did. -/
def heapPlaysSpec : ChangeSpec := { name := "heapPlays", fn := fun _ => fun
  | [d1, d2] => { results := [.lit (.bool true)], args := [d1, d2] }
  | _ => none }
def heapPlaysRow : OpenClaim := { program := "ytpabihjmjkodbaa", sum := "ba5e7ffff12554b609d272d19176a4b1d210f9452444203431fd1756c17abd00", func := "quietus/quietuslaw2.HeapPlays", spec := "heapPlays", apart := false }
def HeapPlaysSaid : Prop := heapPlaysRow.holds Try.pinned (OpenSpec.ofChange heapPlaysSpec)

/-- ITS FALSE NEIGHBOUR: 'it returns false'. Refute it at one input. -/
def heapPlaysWrong : ChangeSpec := { name := "heapPlays", fn := fun _ => fun
  | [d1, d2] => { results := [.lit (.bool false)], args := [d1, d2] }
  | _ => none }
def HeapPlaysWrongFalsely : Prop := heapPlaysRow.holds Try.pinned (OpenSpec.ofChange heapPlaysWrong)

/-- 'quietuslaw2.HeapCopies': WHATEVER THE INPUT: true; the input reads as it did. -/
def heapCopiesSpec : ChangeSpec := { name := "heapCopies", fn := fun _ => fun
  | [d1, d2, d3, d4] => { results := [.lit (.bool true)], args := [d1, d2, d3, d4] }
  | _ => none }
def heapCopiesRow : OpenClaim := { program := "ytpabihjmjkodbaa", sum := "ba5e7ffff12554b609d272d19176a4b1d210f9452444203431fd1756c17abd00", func := "quietus/quietuslaw2.HeapCopies", spec := "heapCopies", apart := false }
def HeapCopiesSaid : Prop := heapCopiesRow.holds Try.pinned (OpenSpec.ofChange heapCopiesSpec)

/-- ITS FALSE NEIGHBOUR: 'it returns false'. Refute it at one input. -/
def heapCopiesWrong : ChangeSpec := { name := "heapCopies", fn := fun _ => fun
  | [d1, d2, d3, d4] => { results := [.lit (.bool false)], args := [d1, d2, d3, d4] }
  | _ => none }
def HeapCopiesWrongFalsely : Prop := heapCopiesRow.holds Try.pinned (OpenSpec.ofChange heapCopiesWrong)

/-- 'quietuslaw2.HeapAll': WHATEVER THE INPUT: true; the input reads as it did. -/
def heapAllSpec : ChangeSpec := { name := "heapAll", fn := fun _ => fun
  | [d1, d2, d3] => { results := [.lit (.bool true)], args := [d1, d2, d3] }
  | _ => none }
def heapAllRow : OpenClaim := { program := "ytpabihjmjkodbaa", sum := "ba5e7ffff12554b609d272d19176a4b1d210f9452444203431fd1756c17abd00", func := "quietus/quietuslaw2.HeapAll", spec := "heapAll", apart := false }
def HeapAllSaid : Prop := heapAllRow.holds Try.pinned (OpenSpec.ofChange heapAllSpec)

/-- ITS FALSE NEIGHBOUR: 'it returns false'. Refute it at one input. -/
def heapAllWrong : ChangeSpec := { name := "heapAll", fn := fun _ => fun
  | [d1, d2, d3] => { results := [.lit (.bool false)], args := [d1, d2, d3] }
  | _ => none }
def HeapAllWrongFalsely : Prop := heapAllRow.holds Try.pinned (OpenSpec.ofChange heapAllWrong)

/-- 'quietuslaw12.LimboRuns': WHATEVER THE INPUT: true; the input reads as it did. -/
def limboRunsSpec : ChangeSpec := { name := "limboRuns", fn := fun _ => fun
  | [] => { results := [.lit (.bool true)], args := [] }
  | _ => none }
def limboRunsRow : OpenClaim := { program := "ytpabihjmjkodbaa", sum := "ba5e7ffff12554b609d272d19176a4b1d210f9452444203431fd1756c17abd00", func := "quietus/quietuslaw12.LimboRuns", spec := "limboRuns", apart := false }
def LimboRunsSaid : Prop := limboRunsRow.holds Try.pinned (OpenSpec.ofChange limboRunsSpec)

/-- ITS FALSE NEIGHBOUR: 'it returns false'. Refute it at one input. -/
def limboRunsWrong : ChangeSpec := { name := "limboRuns", fn := fun _ => fun
  | [] => { results := [.lit (.bool false)], args := [] }
  | _ => none }
def LimboRunsWrongFalsely : Prop := limboRunsRow.holds Try.pinned (OpenSpec.ofChange limboRunsWrong)

/-- 'quietuslaw12.LimboPlays': WHATEVER THE INPUT: true; the input reads as it did. -/
def limboPlaysSpec : ChangeSpec := { name := "limboPlays", fn := fun _ => fun
  | [d] => { results := [.lit (.bool true)], args := [d] }
  | _ => none }
def limboPlaysRow : OpenClaim := { program := "ytpabihjmjkodbaa", sum := "ba5e7ffff12554b609d272d19176a4b1d210f9452444203431fd1756c17abd00", func := "quietus/quietuslaw12.LimboPlays", spec := "limboPlays", apart := false }
def LimboPlaysSaid : Prop := limboPlaysRow.holds Try.pinned (OpenSpec.ofChange limboPlaysSpec)

/-- ITS FALSE NEIGHBOUR: 'it returns false'. Refute it at one input. -/
def limboPlaysWrong : ChangeSpec := { name := "limboPlays", fn := fun _ => fun
  | [d] => { results := [.lit (.bool false)], args := [d] }
  | _ => none }
def LimboPlaysWrongFalsely : Prop := limboPlaysRow.holds Try.pinned (OpenSpec.ofChange limboPlaysWrong)

/-- 'quietuslaw12.LimboWaits': WHATEVER THE INPUT: true; the input reads as it did. -/
def limboWaitsSpec : ChangeSpec := { name := "limboWaits", fn := fun _ => fun
  | [d1, d2, d3] => { results := [.lit (.bool true)], args := [d1, d2, d3] }
  | _ => none }
def limboWaitsRow : OpenClaim := { program := "ytpabihjmjkodbaa", sum := "ba5e7ffff12554b609d272d19176a4b1d210f9452444203431fd1756c17abd00", func := "quietus/quietuslaw12.LimboWaits", spec := "limboWaits", apart := false }
def LimboWaitsSaid : Prop := limboWaitsRow.holds Try.pinned (OpenSpec.ofChange limboWaitsSpec)

/-- ITS FALSE NEIGHBOUR: 'it returns false'. Refute it at one input. -/
def limboWaitsWrong : ChangeSpec := { name := "limboWaits", fn := fun _ => fun
  | [d1, d2, d3] => { results := [.lit (.bool false)], args := [d1, d2, d3] }
  | _ => none }
def LimboWaitsWrongFalsely : Prop := limboWaitsRow.holds Try.pinned (OpenSpec.ofChange limboWaitsWrong)

/-- 'quietuslaw5.EpochRuns': WHATEVER THE INPUT: true; the input reads as it did. -/
def epochRunsSpec : ChangeSpec := { name := "epochRuns", fn := fun _ => fun
  | [] => { results := [.lit (.bool true)], args := [] }
  | _ => none }
def epochRunsRow : OpenClaim := { program := "ytpabihjmjkodbaa", sum := "ba5e7ffff12554b609d272d19176a4b1d210f9452444203431fd1756c17abd00", func := "quietus/quietuslaw5.EpochRuns", spec := "epochRuns", apart := false }
def EpochRunsSaid : Prop := epochRunsRow.holds Try.pinned (OpenSpec.ofChange epochRunsSpec)

/-- ITS FALSE NEIGHBOUR: 'it returns false'. Refute it at one input. -/
def epochRunsWrong : ChangeSpec := { name := "epochRuns", fn := fun _ => fun
  | [] => { results := [.lit (.bool false)], args := [] }
  | _ => none }
def EpochRunsWrongFalsely : Prop := epochRunsRow.holds Try.pinned (OpenSpec.ofChange epochRunsWrong)

/-- 'quietuslaw5.EpochPassed': WHATEVER THE INPUT: true; the input reads as it did. -/
def epochPassedSpec : ChangeSpec := { name := "epochPassed", fn := fun _ => fun
  | [d1, d2, d3] => { results := [.lit (.bool true)], args := [d1, d2, d3] }
  | _ => none }
def epochPassedRow : OpenClaim := { program := "ytpabihjmjkodbaa", sum := "ba5e7ffff12554b609d272d19176a4b1d210f9452444203431fd1756c17abd00", func := "quietus/quietuslaw5.EpochPassed", spec := "epochPassed", apart := false }
def EpochPassedSaid : Prop := epochPassedRow.holds Try.pinned (OpenSpec.ofChange epochPassedSpec)

/-- ITS FALSE NEIGHBOUR: 'it returns false'. Refute it at one input. -/
def epochPassedWrong : ChangeSpec := { name := "epochPassed", fn := fun _ => fun
  | [d1, d2, d3] => { results := [.lit (.bool false)], args := [d1, d2, d3] }
  | _ => none }
def EpochPassedWrongFalsely : Prop := epochPassedRow.holds Try.pinned (OpenSpec.ofChange epochPassedWrong)

/-- 'quietuslaw7.ReadsRuns': WHATEVER THE INPUT: true; the input reads as it did. -/
def readsRunsSpec : ChangeSpec := { name := "readsRuns", fn := fun _ => fun
  | [] => { results := [.lit (.bool true)], args := [] }
  | _ => none }
def readsRunsRow : OpenClaim := { program := "ytpabihjmjkodbaa", sum := "ba5e7ffff12554b609d272d19176a4b1d210f9452444203431fd1756c17abd00", func := "quietus/quietuslaw7.ReadsRuns", spec := "readsRuns", apart := false }
def ReadsRunsSaid : Prop := readsRunsRow.holds Try.pinned (OpenSpec.ofChange readsRunsSpec)

/-- ITS FALSE NEIGHBOUR: 'it returns false'. Refute it at one input. -/
def readsRunsWrong : ChangeSpec := { name := "readsRuns", fn := fun _ => fun
  | [] => { results := [.lit (.bool false)], args := [] }
  | _ => none }
def ReadsRunsWrongFalsely : Prop := readsRunsRow.holds Try.pinned (OpenSpec.ofChange readsRunsWrong)

/-- 'quietuslaw7.ReadsPlays': WHATEVER THE INPUT: true; the input reads as it did. -/
def readsPlaysSpec : ChangeSpec := { name := "readsPlays", fn := fun _ => fun
  | [d1, d2, d3, d4] => { results := [.lit (.bool true)], args := [d1, d2, d3, d4] }
  | _ => none }
def readsPlaysRow : OpenClaim := { program := "ytpabihjmjkodbaa", sum := "ba5e7ffff12554b609d272d19176a4b1d210f9452444203431fd1756c17abd00", func := "quietus/quietuslaw7.ReadsPlays", spec := "readsPlays", apart := false }
def ReadsPlaysSaid : Prop := readsPlaysRow.holds Try.pinned (OpenSpec.ofChange readsPlaysSpec)

/-- ITS FALSE NEIGHBOUR: 'it returns false'. Refute it at one input. -/
def readsPlaysWrong : ChangeSpec := { name := "readsPlays", fn := fun _ => fun
  | [d1, d2, d3, d4] => { results := [.lit (.bool false)], args := [d1, d2, d3, d4] }
  | _ => none }
def ReadsPlaysWrongFalsely : Prop := readsPlaysRow.holds Try.pinned (OpenSpec.ofChange readsPlaysWrong)

/-- 'quietuslaw7.ReadsFull': WHATEVER THE INPUT: true; the input reads as it did. -/
def readsFullSpec : ChangeSpec := { name := "readsFull", fn := fun _ => fun
  | [d1, d2] => { results := [.lit (.bool true)], args := [d1, d2] }
  | _ => none }
def readsFullRow : OpenClaim := { program := "ytpabihjmjkodbaa", sum := "ba5e7ffff12554b609d272d19176a4b1d210f9452444203431fd1756c17abd00", func := "quietus/quietuslaw7.ReadsFull", spec := "readsFull", apart := false }
def ReadsFullSaid : Prop := readsFullRow.holds Try.pinned (OpenSpec.ofChange readsFullSpec)

/-- ITS FALSE NEIGHBOUR: 'it returns false'. Refute it at one input. -/
def readsFullWrong : ChangeSpec := { name := "readsFull", fn := fun _ => fun
  | [d1, d2] => { results := [.lit (.bool false)], args := [d1, d2] }
  | _ => none }
def ReadsFullWrongFalsely : Prop := readsFullRow.holds Try.pinned (OpenSpec.ofChange readsFullWrong)

/-- 'quietuslaw7.ReadsStands': WHATEVER THE INPUT: true; the input reads as it did. -/
def readsStandsSpec : ChangeSpec := { name := "readsStands", fn := fun _ => fun
  | [d1, d2, d3, d4] => { results := [.lit (.bool true)], args := [d1, d2, d3, d4] }
  | _ => none }
def readsStandsRow : OpenClaim := { program := "ytpabihjmjkodbaa", sum := "ba5e7ffff12554b609d272d19176a4b1d210f9452444203431fd1756c17abd00", func := "quietus/quietuslaw7.ReadsStands", spec := "readsStands", apart := false }
def ReadsStandsSaid : Prop := readsStandsRow.holds Try.pinned (OpenSpec.ofChange readsStandsSpec)

/-- ITS FALSE NEIGHBOUR: 'it returns false'. Refute it at one input. -/
def readsStandsWrong : ChangeSpec := { name := "readsStands", fn := fun _ => fun
  | [d1, d2, d3, d4] => { results := [.lit (.bool false)], args := [d1, d2, d3, d4] }
  | _ => none }
def ReadsStandsWrongFalsely : Prop := readsStandsRow.holds Try.pinned (OpenSpec.ofChange readsStandsWrong)

/-- 'quietuslaw5.EpochPlays': WHATEVER THE INPUT: true; the input reads as it did. -/
def epochPlaysSpec : ChangeSpec := { name := "epochPlays", fn := fun _ => fun
  | [d1, d2] => { results := [.lit (.bool true)], args := [d1, d2] }
  | _ => none }
def epochPlaysRow : OpenClaim := { program := "ytpabihjmjkodbaa", sum := "ba5e7ffff12554b609d272d19176a4b1d210f9452444203431fd1756c17abd00", func := "quietus/quietuslaw5.EpochPlays", spec := "epochPlays", apart := false }
def EpochPlaysSaid : Prop := epochPlaysRow.holds Try.pinned (OpenSpec.ofChange epochPlaysSpec)

/-- ITS FALSE NEIGHBOUR: 'it returns false'. Refute it at one input. -/
def epochPlaysWrong : ChangeSpec := { name := "epochPlays", fn := fun _ => fun
  | [d1, d2] => { results := [.lit (.bool false)], args := [d1, d2] }
  | _ => none }
def EpochPlaysWrongFalsely : Prop := epochPlaysRow.holds Try.pinned (OpenSpec.ofChange epochPlaysWrong)

/-- 'quietuslaw5.EpochCopies': WHATEVER THE INPUT: true; the input reads as it did. -/
def epochCopiesSpec : ChangeSpec := { name := "epochCopies", fn := fun _ => fun
  | [d1, d2, d3, d4] => { results := [.lit (.bool true)], args := [d1, d2, d3, d4] }
  | _ => none }
def epochCopiesRow : OpenClaim := { program := "ytpabihjmjkodbaa", sum := "ba5e7ffff12554b609d272d19176a4b1d210f9452444203431fd1756c17abd00", func := "quietus/quietuslaw5.EpochCopies", spec := "epochCopies", apart := false }
def EpochCopiesSaid : Prop := epochCopiesRow.holds Try.pinned (OpenSpec.ofChange epochCopiesSpec)

/-- ITS FALSE NEIGHBOUR: 'it returns false'. Refute it at one input. -/
def epochCopiesWrong : ChangeSpec := { name := "epochCopies", fn := fun _ => fun
  | [d1, d2, d3, d4] => { results := [.lit (.bool false)], args := [d1, d2, d3, d4] }
  | _ => none }
def EpochCopiesWrongFalsely : Prop := epochCopiesRow.holds Try.pinned (OpenSpec.ofChange epochCopiesWrong)

/- THE SECOND FORM. 'bulk': how many values and letters a reading holds, each counted each time it is reached (what is shared counts as often as it is met; a slice's spare places count too). A statement '..UptoSaid' is the law's where the arguments, and the package variables that the reading takes, are together of bulk at most 1048576: NARROWER than '..Said'. Prove '..Said' where nothing that the law and all that it calls make is longer than what came in: it says more and counts as full. Else prove '..UptoSaid'. A law counts once. -/
mutual
def uptoBulk {H : Type} : DataW H → Nat
  | .lit (.string bytes) => bytes.length + 1
  | .lit _ => 1
  | .nil => 1
  | .ptr d => uptoBulk d + 1
  | .slice elems spare => uptoBulkAll elems + uptoBulkAll spare + 1
  | .agg parts => uptoBulkAll parts + 1
  | .iface _ d => uptoBulk d + 1
  | .map entries => uptoBulkEntries entries + 1
  | .held _ => 1
def uptoBulkAll {H : Type} : List (DataW H) → Nat
  | [] => 0
  | d :: r => uptoBulk d + uptoBulkAll r
def uptoBulkEntries {H : Type} : List (Lit × DataW H) → Nat
  | [] => 0
  | x :: r => uptoBulkEntry x + uptoBulkEntries r
def uptoBulkEntry {H : Type} : Lit × DataW H → Nat
  | (.string bytes, d) => bytes.length + uptoBulk d + 1
  | (_, d) => uptoBulk d + 1
 end
def uptoSmall : (H : Type) → List (DataW H) → Bool := fun _ ds => decide (uptoBulkAll ds ≤ 1048576)
def OpenSpec.upto (s : _root_.Go.ChangeSpec) : _root_.Go.OpenSpec := { _root_.Go.OpenSpec.ofChange s with cond := some uptoSmall }

/-- 'quietuslaw2.HeapRuns', WHERE WHAT IT READS IS OF BULK AT MOST 1048576: true; the input reads as it did. -/
def heapRunsUptoRow : OpenClaim := { program := "ytpabihjmjkodbaa", sum := "ba5e7ffff12554b609d272d19176a4b1d210f9452444203431fd1756c17abd00", func := "quietus/quietuslaw2.HeapRuns", spec := "heapRuns", apart := false, narrowed := true }
def HeapRunsUptoSaid : Prop := heapRunsUptoRow.holds Try.pinned (OpenSpec.upto heapRunsSpec)

/-- 'quietuslaw2.HeapPlays', WHERE WHAT IT READS IS OF BULK AT MOST 1048576: true; the input reads as it did. -/
def heapPlaysUptoRow : OpenClaim := { program := "ytpabihjmjkodbaa", sum := "ba5e7ffff12554b609d272d19176a4b1d210f9452444203431fd1756c17abd00", func := "quietus/quietuslaw2.HeapPlays", spec := "heapPlays", apart := false, narrowed := true }
def HeapPlaysUptoSaid : Prop := heapPlaysUptoRow.holds Try.pinned (OpenSpec.upto heapPlaysSpec)

/-- 'quietuslaw2.HeapCopies', WHERE WHAT IT READS IS OF BULK AT MOST 1048576: true; the input reads as it did. -/
def heapCopiesUptoRow : OpenClaim := { program := "ytpabihjmjkodbaa", sum := "ba5e7ffff12554b609d272d19176a4b1d210f9452444203431fd1756c17abd00", func := "quietus/quietuslaw2.HeapCopies", spec := "heapCopies", apart := false, narrowed := true }
def HeapCopiesUptoSaid : Prop := heapCopiesUptoRow.holds Try.pinned (OpenSpec.upto heapCopiesSpec)

/-- 'quietuslaw2.HeapAll', WHERE WHAT IT READS IS OF BULK AT MOST 1048576: true; the input reads as it did. -/
def heapAllUptoRow : OpenClaim := { program := "ytpabihjmjkodbaa", sum := "ba5e7ffff12554b609d272d19176a4b1d210f9452444203431fd1756c17abd00", func := "quietus/quietuslaw2.HeapAll", spec := "heapAll", apart := false, narrowed := true }
def HeapAllUptoSaid : Prop := heapAllUptoRow.holds Try.pinned (OpenSpec.upto heapAllSpec)

/-- 'quietuslaw12.LimboRuns', WHERE WHAT IT READS IS OF BULK AT MOST 1048576: true; the input reads as it did. -/
def limboRunsUptoRow : OpenClaim := { program := "ytpabihjmjkodbaa", sum := "ba5e7ffff12554b609d272d19176a4b1d210f9452444203431fd1756c17abd00", func := "quietus/quietuslaw12.LimboRuns", spec := "limboRuns", apart := false, narrowed := true }
def LimboRunsUptoSaid : Prop := limboRunsUptoRow.holds Try.pinned (OpenSpec.upto limboRunsSpec)

/-- 'quietuslaw12.LimboPlays', WHERE WHAT IT READS IS OF BULK AT MOST 1048576: true; the input reads as it did. -/
def limboPlaysUptoRow : OpenClaim := { program := "ytpabihjmjkodbaa", sum := "ba5e7ffff12554b609d272d19176a4b1d210f9452444203431fd1756c17abd00", func := "quietus/quietuslaw12.LimboPlays", spec := "limboPlays", apart := false, narrowed := true }
def LimboPlaysUptoSaid : Prop := limboPlaysUptoRow.holds Try.pinned (OpenSpec.upto limboPlaysSpec)

/-- 'quietuslaw12.LimboWaits', WHERE WHAT IT READS IS OF BULK AT MOST 1048576: true; the input reads as it did. -/
def limboWaitsUptoRow : OpenClaim := { program := "ytpabihjmjkodbaa", sum := "ba5e7ffff12554b609d272d19176a4b1d210f9452444203431fd1756c17abd00", func := "quietus/quietuslaw12.LimboWaits", spec := "limboWaits", apart := false, narrowed := true }
def LimboWaitsUptoSaid : Prop := limboWaitsUptoRow.holds Try.pinned (OpenSpec.upto limboWaitsSpec)

/-- 'quietuslaw5.EpochRuns', WHERE WHAT IT READS IS OF BULK AT MOST 1048576: true; the input reads as it did. -/
def epochRunsUptoRow : OpenClaim := { program := "ytpabihjmjkodbaa", sum := "ba5e7ffff12554b609d272d19176a4b1d210f9452444203431fd1756c17abd00", func := "quietus/quietuslaw5.EpochRuns", spec := "epochRuns", apart := false, narrowed := true }
def EpochRunsUptoSaid : Prop := epochRunsUptoRow.holds Try.pinned (OpenSpec.upto epochRunsSpec)

/-- 'quietuslaw5.EpochPassed', WHERE WHAT IT READS IS OF BULK AT MOST 1048576: true; the input reads as it did. -/
def epochPassedUptoRow : OpenClaim := { program := "ytpabihjmjkodbaa", sum := "ba5e7ffff12554b609d272d19176a4b1d210f9452444203431fd1756c17abd00", func := "quietus/quietuslaw5.EpochPassed", spec := "epochPassed", apart := false, narrowed := true }
def EpochPassedUptoSaid : Prop := epochPassedUptoRow.holds Try.pinned (OpenSpec.upto epochPassedSpec)

/-- 'quietuslaw7.ReadsRuns', WHERE WHAT IT READS IS OF BULK AT MOST 1048576: true; the input reads as it did. -/
def readsRunsUptoRow : OpenClaim := { program := "ytpabihjmjkodbaa", sum := "ba5e7ffff12554b609d272d19176a4b1d210f9452444203431fd1756c17abd00", func := "quietus/quietuslaw7.ReadsRuns", spec := "readsRuns", apart := false, narrowed := true }
def ReadsRunsUptoSaid : Prop := readsRunsUptoRow.holds Try.pinned (OpenSpec.upto readsRunsSpec)

/-- 'quietuslaw7.ReadsPlays', WHERE WHAT IT READS IS OF BULK AT MOST 1048576: true; the input reads as it did. -/
def readsPlaysUptoRow : OpenClaim := { program := "ytpabihjmjkodbaa", sum := "ba5e7ffff12554b609d272d19176a4b1d210f9452444203431fd1756c17abd00", func := "quietus/quietuslaw7.ReadsPlays", spec := "readsPlays", apart := false, narrowed := true }
def ReadsPlaysUptoSaid : Prop := readsPlaysUptoRow.holds Try.pinned (OpenSpec.upto readsPlaysSpec)

/-- 'quietuslaw7.ReadsFull', WHERE WHAT IT READS IS OF BULK AT MOST 1048576: true; the input reads as it did. -/
def readsFullUptoRow : OpenClaim := { program := "ytpabihjmjkodbaa", sum := "ba5e7ffff12554b609d272d19176a4b1d210f9452444203431fd1756c17abd00", func := "quietus/quietuslaw7.ReadsFull", spec := "readsFull", apart := false, narrowed := true }
def ReadsFullUptoSaid : Prop := readsFullUptoRow.holds Try.pinned (OpenSpec.upto readsFullSpec)

/-- 'quietuslaw7.ReadsStands', WHERE WHAT IT READS IS OF BULK AT MOST 1048576: true; the input reads as it did. -/
def readsStandsUptoRow : OpenClaim := { program := "ytpabihjmjkodbaa", sum := "ba5e7ffff12554b609d272d19176a4b1d210f9452444203431fd1756c17abd00", func := "quietus/quietuslaw7.ReadsStands", spec := "readsStands", apart := false, narrowed := true }
def ReadsStandsUptoSaid : Prop := readsStandsUptoRow.holds Try.pinned (OpenSpec.upto readsStandsSpec)

/-- 'quietuslaw5.EpochPlays', WHERE WHAT IT READS IS OF BULK AT MOST 1048576: true; the input reads as it did. -/
def epochPlaysUptoRow : OpenClaim := { program := "ytpabihjmjkodbaa", sum := "ba5e7ffff12554b609d272d19176a4b1d210f9452444203431fd1756c17abd00", func := "quietus/quietuslaw5.EpochPlays", spec := "epochPlays", apart := false, narrowed := true }
def EpochPlaysUptoSaid : Prop := epochPlaysUptoRow.holds Try.pinned (OpenSpec.upto epochPlaysSpec)

/-- 'quietuslaw5.EpochCopies', WHERE WHAT IT READS IS OF BULK AT MOST 1048576: true; the input reads as it did. -/
def epochCopiesUptoRow : OpenClaim := { program := "ytpabihjmjkodbaa", sum := "ba5e7ffff12554b609d272d19176a4b1d210f9452444203431fd1756c17abd00", func := "quietus/quietuslaw5.EpochCopies", spec := "epochCopies", apart := false, narrowed := true }
def EpochCopiesUptoSaid : Prop := epochCopiesUptoRow.holds Try.pinned (OpenSpec.upto epochCopiesSpec)

end Rows
end Go.Proofs.Ytpabihjmjkodbaa
