/-
  DERIVED. GIVEN WITH THE SEED: THE CARDS: each row of YtoealglbimbbmaaGreatDoorRows.lean that lists a variable, with what it lists TIED to the program's text (the seventh form; the later family's looks); each row that meets fmt, with fmt's text TOLD by the authors' own Lean function (tested against real Go, not proved from fmt's source: count such statements apart). THE CARD IS WHAT COUNTS. Prove the row's statement (the work); the ties are given (YtoealglbimbbmaaGreatDoorTie.lean); close each card by the builder's one call (the guide's Derived/Test/ToyasCard.lean, 'card_holds'). Laid BY PROGRAM, IN A SANDBOX (cutbox-door.mjs). By AI agents, Wed Nov 11 2026. No macro, syntax, notation, axiom, sorry.
-/
import Derived.Test.YtoealglbimbbmaaGreatDoorRows
import GoSem.ClaimSeven
namespace Go.Proofs.YtoealglbimbbmaaGreatDoor
namespace Rows

/-- THE TIED CARD OF 'quietustop.TopOrder'. -/
def topOrderCard : Claim7 := { stood := { row := topOrderRow, standIns := [], harness := (true, "41afa63366819ab4fb672c1f5a7608684a37e12b8d33bff9798bd6983c59af33"), looks := true }, kinds := [], alts := [], laidByText := true, laidKinds := [.data, .data, .data], laidTests := true, laidLooks := .later }
def TopOrderCardSaid : Prop := Claim7.holds Tryz.pinned (.plain (OpenSpec.ofChange topOrderSpec)) topOrderCard

/-- THE TIED CARD OF 'quietustop.TopReads'. -/
def topReadsCard : Claim7 := { stood := { row := topReadsRow, standIns := [], harness := (true, "41afa63366819ab4fb672c1f5a7608684a37e12b8d33bff9798bd6983c59af33"), looks := true }, kinds := [], alts := [], laidByText := true, laidKinds := [.data, .data, .data], laidTests := true, laidLooks := .later }
def TopReadsCardSaid : Prop := Claim7.holds Tryz.pinned (.plain (OpenSpec.ofChange topReadsSpec)) topReadsCard

/-- THE TIED CARD OF 'quietustop.TopSafe'. -/
def topSafeCard : Claim7 := { stood := { row := topSafeRow, standIns := [], harness := (true, "41afa63366819ab4fb672c1f5a7608684a37e12b8d33bff9798bd6983c59af33"), looks := true }, kinds := [], alts := [], laidByText := true, laidKinds := [.data, .data, .data], laidTests := true, laidLooks := .later }
def TopSafeCardSaid : Prop := Claim7.holds Tryz.pinned (.plain (OpenSpec.ofChange topSafeSpec)) topSafeCard

/-- THE TIED CARD OF 'quietustop.TopClock'. -/
def topClockCard : Claim7 := { stood := { row := topClockRow, standIns := [], harness := (true, "41afa63366819ab4fb672c1f5a7608684a37e12b8d33bff9798bd6983c59af33"), looks := true }, kinds := [], alts := [], laidByText := true, laidKinds := [.data, .data, .data], laidTests := true, laidLooks := .later }
def TopClockCardSaid : Prop := Claim7.holds Tryz.pinned (.plain (OpenSpec.ofChange topClockSpec)) topClockCard

/-- THE TIED CARD OF 'quietustop.TopTotal'. -/
def topTotalCard : Claim7 := { stood := { row := topTotalRow, standIns := [], harness := (true, "41afa63366819ab4fb672c1f5a7608684a37e12b8d33bff9798bd6983c59af33"), looks := true }, kinds := [], alts := [], laidByText := true, laidKinds := [.data, .data, .data], laidTests := true, laidLooks := .later }
def TopTotalCardSaid : Prop := Claim7.holds Tryz.pinned (.plain (OpenSpec.ofChange topTotalSpec)) topTotalCard

/-- THE TIED CARD OF 'quietustop.TopWakes'. -/
def topWakesCard : Claim7 := { stood := { row := topWakesRow, standIns := [], harness := (true, "41afa63366819ab4fb672c1f5a7608684a37e12b8d33bff9798bd6983c59af33"), looks := true }, kinds := [], alts := [], laidByText := true, laidKinds := [.data, .data, .data], laidTests := true, laidLooks := .later }
def TopWakesCardSaid : Prop := Claim7.holds Tryz.pinned (.plain (OpenSpec.ofChange topWakesSpec)) topWakesCard

/-- THE SECOND FORM's CARD OF 'quietustop.TopOrder'. -/
def topOrderUptoCard : Claim7 := { stood := { row := topOrderUptoRow, standIns := [], harness := (true, "41afa63366819ab4fb672c1f5a7608684a37e12b8d33bff9798bd6983c59af33"), looks := true }, kinds := [], alts := [], laidByText := true, laidKinds := [.data, .data, .data], laidTests := true, laidLooks := .later }
def TopOrderUptoCardSaid : Prop := Claim7.holds Tryz.pinned (.plain (OpenSpec.upto topOrderSpec)) topOrderUptoCard

/-- THE SECOND FORM's CARD OF 'quietustop.TopReads'. -/
def topReadsUptoCard : Claim7 := { stood := { row := topReadsUptoRow, standIns := [], harness := (true, "41afa63366819ab4fb672c1f5a7608684a37e12b8d33bff9798bd6983c59af33"), looks := true }, kinds := [], alts := [], laidByText := true, laidKinds := [.data, .data, .data], laidTests := true, laidLooks := .later }
def TopReadsUptoCardSaid : Prop := Claim7.holds Tryz.pinned (.plain (OpenSpec.upto topReadsSpec)) topReadsUptoCard

/-- THE SECOND FORM's CARD OF 'quietustop.TopSafe'. -/
def topSafeUptoCard : Claim7 := { stood := { row := topSafeUptoRow, standIns := [], harness := (true, "41afa63366819ab4fb672c1f5a7608684a37e12b8d33bff9798bd6983c59af33"), looks := true }, kinds := [], alts := [], laidByText := true, laidKinds := [.data, .data, .data], laidTests := true, laidLooks := .later }
def TopSafeUptoCardSaid : Prop := Claim7.holds Tryz.pinned (.plain (OpenSpec.upto topSafeSpec)) topSafeUptoCard

/-- THE SECOND FORM's CARD OF 'quietustop.TopClock'. -/
def topClockUptoCard : Claim7 := { stood := { row := topClockUptoRow, standIns := [], harness := (true, "41afa63366819ab4fb672c1f5a7608684a37e12b8d33bff9798bd6983c59af33"), looks := true }, kinds := [], alts := [], laidByText := true, laidKinds := [.data, .data, .data], laidTests := true, laidLooks := .later }
def TopClockUptoCardSaid : Prop := Claim7.holds Tryz.pinned (.plain (OpenSpec.upto topClockSpec)) topClockUptoCard

/-- THE SECOND FORM's CARD OF 'quietustop.TopTotal'. -/
def topTotalUptoCard : Claim7 := { stood := { row := topTotalUptoRow, standIns := [], harness := (true, "41afa63366819ab4fb672c1f5a7608684a37e12b8d33bff9798bd6983c59af33"), looks := true }, kinds := [], alts := [], laidByText := true, laidKinds := [.data, .data, .data], laidTests := true, laidLooks := .later }
def TopTotalUptoCardSaid : Prop := Claim7.holds Tryz.pinned (.plain (OpenSpec.upto topTotalSpec)) topTotalUptoCard

/-- THE SECOND FORM's CARD OF 'quietustop.TopWakes'. -/
def topWakesUptoCard : Claim7 := { stood := { row := topWakesUptoRow, standIns := [], harness := (true, "41afa63366819ab4fb672c1f5a7608684a37e12b8d33bff9798bd6983c59af33"), looks := true }, kinds := [], alts := [], laidByText := true, laidKinds := [.data, .data, .data], laidTests := true, laidLooks := .later }
def TopWakesUptoCardSaid : Prop := Claim7.holds Tryz.pinned (.plain (OpenSpec.upto topWakesSpec)) topWakesUptoCard
end Rows
end Go.Proofs.YtoealglbimbbmaaGreatDoor
