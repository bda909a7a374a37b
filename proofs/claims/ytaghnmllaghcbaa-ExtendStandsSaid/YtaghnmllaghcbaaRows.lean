/-
  No cell of these rows narrows 'for every input' (looked for: loops, veiled, ifaces, maps, wideKeys, modest, calm, conditions, laid).
  DERIVED. THE GIVEN ROWS OF THIS SEAT. 13 by the template 'for every input the law returns true; each argument reads behind the call as it read before'; 0 by the template 'total and deterministic' (their statements: YtaghnmllaghcbaaTotals.lean).
  GIVEN WITH THE SEED: the statements are not yours to turn. If you find one false, say at which input.
  Laid BY PROGRAM, IN A SANDBOX (cutbox-rows.mjs): the forced cells as the released guide's own fill.sh prints them over the translation af08d486ae3a27b3… (all of the seat's roots in one cut). By AI agents, Wed Nov 11 2026. No macro, syntax, notation, axiom, sorry.
-/
import Derived.Test.YtaghnmllaghcbaaChecked
import GoSem.Claim
import GoSem.ClaimJoined
import GoSem.ClaimMapViews
import Derived.JoinedTies
import Derived.KernelRfl
namespace Go.Proofs.Ytaghnmllaghcbaa
/- THE CELL 'sum', in the pinned program and in every row, IS THE sha256 OF THE DUMP (.gsa) THAT YtaghnmllaghcbaaProg.lean LOADS. Nothing in Lean hashes anything: it is a label: what it is worth is what the hold of that sum in a sandbox is worth. -/
noncomputable def Try.pinned : Pinned := { name := "ytaghnmllaghcbaa", sum := "af08d486ae3a27b3ba912f88874c60874455e9ef80061ed7ea8867a1c967e9e9", checked := Try.checked }
namespace Rows
def none {H : Type} : Left H := { results := [], args := [] }

/-- 'quietuslaw3.StripeRuns': WHATEVER THE INPUT: true; the input reads as it did. -/
def stripeRunsSpec : ChangeSpec := { name := "stripeRuns", fn := fun _ => fun
  | [] => { results := [.lit (.bool true)], args := [] }
  | _ => none }
def stripeRunsRow : OpenClaim := { program := "ytaghnmllaghcbaa", sum := "af08d486ae3a27b3ba912f88874c60874455e9ef80061ed7ea8867a1c967e9e9", func := "quietus/quietuslaw3.StripeRuns", spec := "stripeRuns", apart := false }
def StripeRunsSaid : Prop := stripeRunsRow.holds Try.pinned (OpenSpec.ofChange stripeRunsSpec)

/-- ITS FALSE NEIGHBOUR: 'it returns false'. Refute it at one input. -/
def stripeRunsWrong : ChangeSpec := { name := "stripeRuns", fn := fun _ => fun
  | [] => { results := [.lit (.bool false)], args := [] }
  | _ => none }
def StripeRunsWrongFalsely : Prop := stripeRunsRow.holds Try.pinned (OpenSpec.ofChange stripeRunsWrong)

/-- 'quietuslaw3.StripeOf': WHATEVER THE INPUT: true; the input reads as it did. -/
def stripeOfSpec : ChangeSpec := { name := "stripeOf", fn := fun _ => fun
  | [d1, d2, d3] => { results := [.lit (.bool true)], args := [d1, d2, d3] }
  | _ => none }
def stripeOfRow : OpenClaim := { program := "ytaghnmllaghcbaa", sum := "af08d486ae3a27b3ba912f88874c60874455e9ef80061ed7ea8867a1c967e9e9", func := "quietus/quietuslaw3.StripeOf", spec := "stripeOf", apart := false }
def StripeOfSaid : Prop := stripeOfRow.holds Try.pinned (OpenSpec.ofChange stripeOfSpec)

/-- ITS FALSE NEIGHBOUR: 'it returns false'. Refute it at one input. -/
def stripeOfWrong : ChangeSpec := { name := "stripeOf", fn := fun _ => fun
  | [d1, d2, d3] => { results := [.lit (.bool false)], args := [d1, d2, d3] }
  | _ => none }
def StripeOfWrongFalsely : Prop := stripeOfRow.holds Try.pinned (OpenSpec.ofChange stripeOfWrong)

/-- 'quietuslaw3.StripeSpread': WHATEVER THE INPUT: true; the input reads as it did. -/
def stripeSpreadSpec : ChangeSpec := { name := "stripeSpread", fn := fun _ => fun
  | [d1, d2, d3] => { results := [.lit (.bool true)], args := [d1, d2, d3] }
  | _ => none }
def stripeSpreadRow : OpenClaim := { program := "ytaghnmllaghcbaa", sum := "af08d486ae3a27b3ba912f88874c60874455e9ef80061ed7ea8867a1c967e9e9", func := "quietus/quietuslaw3.StripeSpread", spec := "stripeSpread", apart := false }
def StripeSpreadSaid : Prop := stripeSpreadRow.holds Try.pinned (OpenSpec.ofChange stripeSpreadSpec)

/-- ITS FALSE NEIGHBOUR: 'it returns false'. Refute it at one input. -/
def stripeSpreadWrong : ChangeSpec := { name := "stripeSpread", fn := fun _ => fun
  | [d1, d2, d3] => { results := [.lit (.bool false)], args := [d1, d2, d3] }
  | _ => none }
def StripeSpreadWrongFalsely : Prop := stripeSpreadRow.holds Try.pinned (OpenSpec.ofChange stripeSpreadWrong)

/-- 'quietuslaw3.StripeOnce': WHATEVER THE INPUT: true; the input reads as it did. -/
def stripeOnceSpec : ChangeSpec := { name := "stripeOnce", fn := fun _ => fun
  | [d1, d2, d3] => { results := [.lit (.bool true)], args := [d1, d2, d3] }
  | _ => none }
def stripeOnceRow : OpenClaim := { program := "ytaghnmllaghcbaa", sum := "af08d486ae3a27b3ba912f88874c60874455e9ef80061ed7ea8867a1c967e9e9", func := "quietus/quietuslaw3.StripeOnce", spec := "stripeOnce", apart := false }
def StripeOnceSaid : Prop := stripeOnceRow.holds Try.pinned (OpenSpec.ofChange stripeOnceSpec)

/-- ITS FALSE NEIGHBOUR: 'it returns false'. Refute it at one input. -/
def stripeOnceWrong : ChangeSpec := { name := "stripeOnce", fn := fun _ => fun
  | [d1, d2, d3] => { results := [.lit (.bool false)], args := [d1, d2, d3] }
  | _ => none }
def StripeOnceWrongFalsely : Prop := stripeOnceRow.holds Try.pinned (OpenSpec.ofChange stripeOnceWrong)

/-- 'quietuslaw24.ExtendRuns': WHATEVER THE INPUT: true; the input reads as it did. -/
def extendRunsSpec : ChangeSpec := { name := "extendRuns", fn := fun _ => fun
  | [] => { results := [.lit (.bool true)], args := [] }
  | _ => none }
def extendRunsRow : OpenClaim := { program := "ytaghnmllaghcbaa", sum := "af08d486ae3a27b3ba912f88874c60874455e9ef80061ed7ea8867a1c967e9e9", func := "quietus/quietuslaw24.ExtendRuns", spec := "extendRuns", apart := false }
def ExtendRunsSaid : Prop := extendRunsRow.holds Try.pinned (OpenSpec.ofChange extendRunsSpec)

/-- ITS FALSE NEIGHBOUR: 'it returns false'. Refute it at one input. -/
def extendRunsWrong : ChangeSpec := { name := "extendRuns", fn := fun _ => fun
  | [] => { results := [.lit (.bool false)], args := [] }
  | _ => none }
def ExtendRunsWrongFalsely : Prop := extendRunsRow.holds Try.pinned (OpenSpec.ofChange extendRunsWrong)

/-- 'quietuslaw23.FetchRuns': WHATEVER THE INPUT: true; the input reads as it did. -/
def fetchRunsSpec : ChangeSpec := { name := "fetchRuns", fn := fun _ => fun
  | [] => { results := [.lit (.bool true)], args := [] }
  | _ => none }
def fetchRunsRow : OpenClaim := { program := "ytaghnmllaghcbaa", sum := "af08d486ae3a27b3ba912f88874c60874455e9ef80061ed7ea8867a1c967e9e9", func := "quietus/quietuslaw23.FetchRuns", spec := "fetchRuns", apart := false }
def FetchRunsSaid : Prop := fetchRunsRow.holds Try.pinned (OpenSpec.ofChange fetchRunsSpec)

/-- ITS FALSE NEIGHBOUR: 'it returns false'. Refute it at one input. -/
def fetchRunsWrong : ChangeSpec := { name := "fetchRuns", fn := fun _ => fun
  | [] => { results := [.lit (.bool false)], args := [] }
  | _ => none }
def FetchRunsWrongFalsely : Prop := fetchRunsRow.holds Try.pinned (OpenSpec.ofChange fetchRunsWrong)

/-- 'quietuslaw23.FetchWaits': WHATEVER THE INPUT: true; the input reads as it did. -/
def fetchWaitsSpec : ChangeSpec := { name := "fetchWaits", fn := fun _ => fun
  | [d1, d2, d3, d4] => { results := [.lit (.bool true)], args := [d1, d2, d3, d4] }
  | _ => none }
def fetchWaitsRow : OpenClaim := { program := "ytaghnmllaghcbaa", sum := "af08d486ae3a27b3ba912f88874c60874455e9ef80061ed7ea8867a1c967e9e9", func := "quietus/quietuslaw23.FetchWaits", spec := "fetchWaits", apart := false }
def FetchWaitsSaid : Prop := fetchWaitsRow.holds Try.pinned (OpenSpec.ofChange fetchWaitsSpec)

/-- ITS FALSE NEIGHBOUR: 'it returns false'. Refute it at one input. -/
def fetchWaitsWrong : ChangeSpec := { name := "fetchWaits", fn := fun _ => fun
  | [d1, d2, d3, d4] => { results := [.lit (.bool false)], args := [d1, d2, d3, d4] }
  | _ => none }
def FetchWaitsWrongFalsely : Prop := fetchWaitsRow.holds Try.pinned (OpenSpec.ofChange fetchWaitsWrong)

/-- 'quietuslaw24.ExtendPlays': WHATEVER THE INPUT: true; the input reads as it did. -/
def extendPlaysSpec : ChangeSpec := { name := "extendPlays", fn := fun _ => fun
  | [d1, d2, d3, d4, d5] => { results := [.lit (.bool true)], args := [d1, d2, d3, d4, d5] }
  | _ => none }
def extendPlaysRow : OpenClaim := { program := "ytaghnmllaghcbaa", sum := "af08d486ae3a27b3ba912f88874c60874455e9ef80061ed7ea8867a1c967e9e9", func := "quietus/quietuslaw24.ExtendPlays", spec := "extendPlays", apart := false }
def ExtendPlaysSaid : Prop := extendPlaysRow.holds Try.pinned (OpenSpec.ofChange extendPlaysSpec)

/-- ITS FALSE NEIGHBOUR: 'it returns false'. Refute it at one input. -/
def extendPlaysWrong : ChangeSpec := { name := "extendPlays", fn := fun _ => fun
  | [d1, d2, d3, d4, d5] => { results := [.lit (.bool false)], args := [d1, d2, d3, d4, d5] }
  | _ => none }
def ExtendPlaysWrongFalsely : Prop := extendPlaysRow.holds Try.pinned (OpenSpec.ofChange extendPlaysWrong)

/-- 'quietuslaw23.FetchPlays': WHATEVER THE INPUT: true; the input reads as it did. -/
def fetchPlaysSpec : ChangeSpec := { name := "fetchPlays", fn := fun _ => fun
  | [d1, d2, d3, d4, d5, d6, d7] => { results := [.lit (.bool true)], args := [d1, d2, d3, d4, d5, d6, d7] }
  | _ => none }
def fetchPlaysRow : OpenClaim := { program := "ytaghnmllaghcbaa", sum := "af08d486ae3a27b3ba912f88874c60874455e9ef80061ed7ea8867a1c967e9e9", func := "quietus/quietuslaw23.FetchPlays", spec := "fetchPlays", apart := false }
def FetchPlaysSaid : Prop := fetchPlaysRow.holds Try.pinned (OpenSpec.ofChange fetchPlaysSpec)

/-- ITS FALSE NEIGHBOUR: 'it returns false'. Refute it at one input. -/
def fetchPlaysWrong : ChangeSpec := { name := "fetchPlays", fn := fun _ => fun
  | [d1, d2, d3, d4, d5, d6, d7] => { results := [.lit (.bool false)], args := [d1, d2, d3, d4, d5, d6, d7] }
  | _ => none }
def FetchPlaysWrongFalsely : Prop := fetchPlaysRow.holds Try.pinned (OpenSpec.ofChange fetchPlaysWrong)

/-- 'quietuslaw3.StripePlays': WHATEVER THE INPUT: true; the input reads as it did. -/
def stripePlaysSpec : ChangeSpec := { name := "stripePlays", fn := fun _ => fun
  | [d1, d2, d3] => { results := [.lit (.bool true)], args := [d1, d2, d3] }
  | _ => none }
def stripePlaysRow : OpenClaim := { program := "ytaghnmllaghcbaa", sum := "af08d486ae3a27b3ba912f88874c60874455e9ef80061ed7ea8867a1c967e9e9", func := "quietus/quietuslaw3.StripePlays", spec := "stripePlays", apart := false }
def StripePlaysSaid : Prop := stripePlaysRow.holds Try.pinned (OpenSpec.ofChange stripePlaysSpec)

/-- ITS FALSE NEIGHBOUR: 'it returns false'. Refute it at one input. -/
def stripePlaysWrong : ChangeSpec := { name := "stripePlays", fn := fun _ => fun
  | [d1, d2, d3] => { results := [.lit (.bool false)], args := [d1, d2, d3] }
  | _ => none }
def StripePlaysWrongFalsely : Prop := stripePlaysRow.holds Try.pinned (OpenSpec.ofChange stripePlaysWrong)

/-- 'quietuslaw3.StripeCopies': WHATEVER THE INPUT: true; the input reads as it did. -/
def stripeCopiesSpec : ChangeSpec := { name := "stripeCopies", fn := fun _ => fun
  | [d1, d2, d3, d4, d5] => { results := [.lit (.bool true)], args := [d1, d2, d3, d4, d5] }
  | _ => none }
def stripeCopiesRow : OpenClaim := { program := "ytaghnmllaghcbaa", sum := "af08d486ae3a27b3ba912f88874c60874455e9ef80061ed7ea8867a1c967e9e9", func := "quietus/quietuslaw3.StripeCopies", spec := "stripeCopies", apart := false }
def StripeCopiesSaid : Prop := stripeCopiesRow.holds Try.pinned (OpenSpec.ofChange stripeCopiesSpec)

/-- ITS FALSE NEIGHBOUR: 'it returns false'. Refute it at one input. -/
def stripeCopiesWrong : ChangeSpec := { name := "stripeCopies", fn := fun _ => fun
  | [d1, d2, d3, d4, d5] => { results := [.lit (.bool false)], args := [d1, d2, d3, d4, d5] }
  | _ => none }
def StripeCopiesWrongFalsely : Prop := stripeCopiesRow.holds Try.pinned (OpenSpec.ofChange stripeCopiesWrong)

/-- 'quietuslaw23.FetchTrue': WHATEVER THE INPUT: true; the input reads as it did. -/
def fetchTrueSpec : ChangeSpec := { name := "fetchTrue", fn := fun _ => fun
  | [d1, d2, d3] => { results := [.lit (.bool true)], args := [d1, d2, d3] }
  | _ => none }
def fetchTrueRow : OpenClaim := { program := "ytaghnmllaghcbaa", sum := "af08d486ae3a27b3ba912f88874c60874455e9ef80061ed7ea8867a1c967e9e9", func := "quietus/quietuslaw23.FetchTrue", spec := "fetchTrue", apart := false }
def FetchTrueSaid : Prop := fetchTrueRow.holds Try.pinned (OpenSpec.ofChange fetchTrueSpec)

/-- ITS FALSE NEIGHBOUR: 'it returns false'. Refute it at one input. -/
def fetchTrueWrong : ChangeSpec := { name := "fetchTrue", fn := fun _ => fun
  | [d1, d2, d3] => { results := [.lit (.bool false)], args := [d1, d2, d3] }
  | _ => none }
def FetchTrueWrongFalsely : Prop := fetchTrueRow.holds Try.pinned (OpenSpec.ofChange fetchTrueWrong)

/-- 'quietuslaw24.ExtendStands': WHATEVER THE INPUT: true; the input reads as it did. -/
def extendStandsSpec : ChangeSpec := { name := "extendStands", fn := fun _ => fun
  | [d1, d2, d3, d4, d5] => { results := [.lit (.bool true)], args := [d1, d2, d3, d4, d5] }
  | _ => none }
def extendStandsRow : OpenClaim := { program := "ytaghnmllaghcbaa", sum := "af08d486ae3a27b3ba912f88874c60874455e9ef80061ed7ea8867a1c967e9e9", func := "quietus/quietuslaw24.ExtendStands", spec := "extendStands", apart := false }
def ExtendStandsSaid : Prop := extendStandsRow.holds Try.pinned (OpenSpec.ofChange extendStandsSpec)

/-- ITS FALSE NEIGHBOUR: 'it returns false'. Refute it at one input. -/
def extendStandsWrong : ChangeSpec := { name := "extendStands", fn := fun _ => fun
  | [d1, d2, d3, d4, d5] => { results := [.lit (.bool false)], args := [d1, d2, d3, d4, d5] }
  | _ => none }
def ExtendStandsWrongFalsely : Prop := extendStandsRow.holds Try.pinned (OpenSpec.ofChange extendStandsWrong)

/- THE SECOND FORM. 'bulk': how many values and letters a reading holds, each counted each time it is reached (what is shared counts as often as it is met; a slice's spare places count too). A statement '..UptoSaid' is the law's where the arguments, and the package variables that the reading takes, are together of bulk at most 1048576: NARROWER than '..Said'. Prove '..Said' where nothing that the law and all that it calls make is longer than what came in: it says more and counts as full. Else prove '..UptoSaid'. A law counts once. -/
mutual
def uptoBulk {H : Type} : DataW H → Nat
  | .lit (.string bytes) => bytes.length + 1
  | .lit _ => 1
  | .nil => 1
  | .ptr d => uptoBulk d + 1
  | .slice elems spare => uptoBulkAll elems + uptoBulkAll spare + 1
  | .agg parts => uptoBulkAll parts + 1
  | .iface _ d => uptoBulk d + 1
  | .map entries => uptoBulkEntries entries + 1
  | .held _ => 1
def uptoBulkAll {H : Type} : List (DataW H) → Nat
  | [] => 0
  | d :: r => uptoBulk d + uptoBulkAll r
def uptoBulkEntries {H : Type} : List (Lit × DataW H) → Nat
  | [] => 0
  | x :: r => uptoBulkEntry x + uptoBulkEntries r
def uptoBulkEntry {H : Type} : Lit × DataW H → Nat
  | (.string bytes, d) => bytes.length + uptoBulk d + 1
  | (_, d) => uptoBulk d + 1
 end
def uptoSmall : (H : Type) → List (DataW H) → Bool := fun _ ds => decide (uptoBulkAll ds ≤ 1048576)
def OpenSpec.upto (s : _root_.Go.ChangeSpec) : _root_.Go.OpenSpec := { _root_.Go.OpenSpec.ofChange s with cond := some uptoSmall }

/-- 'quietuslaw3.StripeRuns', WHERE WHAT IT READS IS OF BULK AT MOST 1048576: true; the input reads as it did. -/
def stripeRunsUptoRow : OpenClaim := { program := "ytaghnmllaghcbaa", sum := "af08d486ae3a27b3ba912f88874c60874455e9ef80061ed7ea8867a1c967e9e9", func := "quietus/quietuslaw3.StripeRuns", spec := "stripeRuns", apart := false, narrowed := true }
def StripeRunsUptoSaid : Prop := stripeRunsUptoRow.holds Try.pinned (OpenSpec.upto stripeRunsSpec)

/-- 'quietuslaw3.StripeOf', WHERE WHAT IT READS IS OF BULK AT MOST 1048576: true; the input reads as it did. -/
def stripeOfUptoRow : OpenClaim := { program := "ytaghnmllaghcbaa", sum := "af08d486ae3a27b3ba912f88874c60874455e9ef80061ed7ea8867a1c967e9e9", func := "quietus/quietuslaw3.StripeOf", spec := "stripeOf", apart := false, narrowed := true }
def StripeOfUptoSaid : Prop := stripeOfUptoRow.holds Try.pinned (OpenSpec.upto stripeOfSpec)

/-- 'quietuslaw3.StripeSpread', WHERE WHAT IT READS IS OF BULK AT MOST 1048576: true; the input reads as it did. -/
def stripeSpreadUptoRow : OpenClaim := { program := "ytaghnmllaghcbaa", sum := "af08d486ae3a27b3ba912f88874c60874455e9ef80061ed7ea8867a1c967e9e9", func := "quietus/quietuslaw3.StripeSpread", spec := "stripeSpread", apart := false, narrowed := true }
def StripeSpreadUptoSaid : Prop := stripeSpreadUptoRow.holds Try.pinned (OpenSpec.upto stripeSpreadSpec)

/-- 'quietuslaw3.StripeOnce', WHERE WHAT IT READS IS OF BULK AT MOST 1048576: true; the input reads as it did. -/
def stripeOnceUptoRow : OpenClaim := { program := "ytaghnmllaghcbaa", sum := "af08d486ae3a27b3ba912f88874c60874455e9ef80061ed7ea8867a1c967e9e9", func := "quietus/quietuslaw3.StripeOnce", spec := "stripeOnce", apart := false, narrowed := true }
def StripeOnceUptoSaid : Prop := stripeOnceUptoRow.holds Try.pinned (OpenSpec.upto stripeOnceSpec)

/-- 'quietuslaw24.ExtendRuns', WHERE WHAT IT READS IS OF BULK AT MOST 1048576: true; the input reads as it did. -/
def extendRunsUptoRow : OpenClaim := { program := "ytaghnmllaghcbaa", sum := "af08d486ae3a27b3ba912f88874c60874455e9ef80061ed7ea8867a1c967e9e9", func := "quietus/quietuslaw24.ExtendRuns", spec := "extendRuns", apart := false, narrowed := true }
def ExtendRunsUptoSaid : Prop := extendRunsUptoRow.holds Try.pinned (OpenSpec.upto extendRunsSpec)

/-- 'quietuslaw23.FetchRuns', WHERE WHAT IT READS IS OF BULK AT MOST 1048576: true; the input reads as it did. -/
def fetchRunsUptoRow : OpenClaim := { program := "ytaghnmllaghcbaa", sum := "af08d486ae3a27b3ba912f88874c60874455e9ef80061ed7ea8867a1c967e9e9", func := "quietus/quietuslaw23.FetchRuns", spec := "fetchRuns", apart := false, narrowed := true }
def FetchRunsUptoSaid : Prop := fetchRunsUptoRow.holds Try.pinned (OpenSpec.upto fetchRunsSpec)

/-- 'quietuslaw23.FetchWaits', WHERE WHAT IT READS IS OF BULK AT MOST 1048576: true; the input reads as it did. -/
def fetchWaitsUptoRow : OpenClaim := { program := "ytaghnmllaghcbaa", sum := "af08d486ae3a27b3ba912f88874c60874455e9ef80061ed7ea8867a1c967e9e9", func := "quietus/quietuslaw23.FetchWaits", spec := "fetchWaits", apart := false, narrowed := true }
def FetchWaitsUptoSaid : Prop := fetchWaitsUptoRow.holds Try.pinned (OpenSpec.upto fetchWaitsSpec)

/-- 'quietuslaw24.ExtendPlays', WHERE WHAT IT READS IS OF BULK AT MOST 1048576: true; the input reads as it did. -/
def extendPlaysUptoRow : OpenClaim := { program := "ytaghnmllaghcbaa", sum := "af08d486ae3a27b3ba912f88874c60874455e9ef80061ed7ea8867a1c967e9e9", func := "quietus/quietuslaw24.ExtendPlays", spec := "extendPlays", apart := false, narrowed := true }
def ExtendPlaysUptoSaid : Prop := extendPlaysUptoRow.holds Try.pinned (OpenSpec.upto extendPlaysSpec)

/-- 'quietuslaw23.FetchPlays', WHERE WHAT IT READS IS OF BULK AT MOST 1048576: true; the input reads as it did. -/
def fetchPlaysUptoRow : OpenClaim := { program := "ytaghnmllaghcbaa", sum := "af08d486ae3a27b3ba912f88874c60874455e9ef80061ed7ea8867a1c967e9e9", func := "quietus/quietuslaw23.FetchPlays", spec := "fetchPlays", apart := false, narrowed := true }
def FetchPlaysUptoSaid : Prop := fetchPlaysUptoRow.holds Try.pinned (OpenSpec.upto fetchPlaysSpec)

/-- 'quietuslaw3.StripePlays', WHERE WHAT IT READS IS OF BULK AT MOST 1048576: true; the input reads as it did. -/
def stripePlaysUptoRow : OpenClaim := { program := "ytaghnmllaghcbaa", sum := "af08d486ae3a27b3ba912f88874c60874455e9ef80061ed7ea8867a1c967e9e9", func := "quietus/quietuslaw3.StripePlays", spec := "stripePlays", apart := false, narrowed := true }
def StripePlaysUptoSaid : Prop := stripePlaysUptoRow.holds Try.pinned (OpenSpec.upto stripePlaysSpec)

/-- 'quietuslaw3.StripeCopies', WHERE WHAT IT READS IS OF BULK AT MOST 1048576: true; the input reads as it did. -/
def stripeCopiesUptoRow : OpenClaim := { program := "ytaghnmllaghcbaa", sum := "af08d486ae3a27b3ba912f88874c60874455e9ef80061ed7ea8867a1c967e9e9", func := "quietus/quietuslaw3.StripeCopies", spec := "stripeCopies", apart := false, narrowed := true }
def StripeCopiesUptoSaid : Prop := stripeCopiesUptoRow.holds Try.pinned (OpenSpec.upto stripeCopiesSpec)

/-- 'quietuslaw23.FetchTrue', WHERE WHAT IT READS IS OF BULK AT MOST 1048576: true; the input reads as it did. -/
def fetchTrueUptoRow : OpenClaim := { program := "ytaghnmllaghcbaa", sum := "af08d486ae3a27b3ba912f88874c60874455e9ef80061ed7ea8867a1c967e9e9", func := "quietus/quietuslaw23.FetchTrue", spec := "fetchTrue", apart := false, narrowed := true }
def FetchTrueUptoSaid : Prop := fetchTrueUptoRow.holds Try.pinned (OpenSpec.upto fetchTrueSpec)

/-- 'quietuslaw24.ExtendStands', WHERE WHAT IT READS IS OF BULK AT MOST 1048576: true; the input reads as it did. -/
def extendStandsUptoRow : OpenClaim := { program := "ytaghnmllaghcbaa", sum := "af08d486ae3a27b3ba912f88874c60874455e9ef80061ed7ea8867a1c967e9e9", func := "quietus/quietuslaw24.ExtendStands", spec := "extendStands", apart := false, narrowed := true }
def ExtendStandsUptoSaid : Prop := extendStandsUptoRow.holds Try.pinned (OpenSpec.upto extendStandsSpec)

end Rows
end Go.Proofs.Ytaghnmllaghcbaa
