/-
  DERIVED. GIVEN WITH THE SEED: THE CARDS: each row of YtdfllhmkgphcmaaDoorRows.lean that lists a variable, with what it lists TIED to the program's text (the seventh form; the later family's looks); each row that meets fmt, with fmt's text TOLD by the authors' own Lean function (tested against real Go, not proved from fmt's source: count such statements apart). THE CARD IS WHAT COUNTS. Prove the row's statement (the work); the ties are given (YtdfllhmkgphcmaaDoorTie.lean); close each card by the builder's one call (the guide's Derived/Test/ToyasCard.lean, 'card_holds'). Laid BY PROGRAM, IN A SANDBOX (cutbox-door.mjs). By AI agents, Wed Nov 11 2026. No macro, syntax, notation, axiom, sorry.
-/
import Derived.Test.YtdfllhmkgphcmaaDoorRows
import GoSem.ClaimSeven
namespace Go.Proofs.YtdfllhmkgphcmaaDoor
namespace Rows

/-- THE TIED CARD OF 'cordwoodlaw29.MachineCheck'. -/
def machineCheckCard : Claim7 := { stood := { row := machineCheckRow, standIns := [], harness := (true, "4c2eef86aa60871219ba2b2652f5efce440bb5c712ed3fc03a12960ed587c28f"), looks := true }, kinds := [], alts := [], laidByText := true, laidKinds := [.data, .pinned], laidTests := true, laidLooks := .later }
def MachineCheckCardSaid : Prop := Claim7.holds Tryd.pinned (.plain (OpenSpec.ofChange machineCheckSpec)) machineCheckCard

/-- THE TIED CARD OF 'cordwoodlaw29.MachineBegin'. -/
def machineBeginCard : Claim7 := { stood := { row := machineBeginRow, standIns := [], harness := (true, "4c2eef86aa60871219ba2b2652f5efce440bb5c712ed3fc03a12960ed587c28f"), looks := true }, kinds := [], alts := [], laidByText := true, laidKinds := [.data, .pinned], laidTests := true, laidLooks := .later }
def MachineBeginCardSaid : Prop := Claim7.holds Tryd.pinned (.plain (OpenSpec.ofChange machineBeginSpec)) machineBeginCard

/-- THE TIED CARD OF 'cordwoodlaw29.MachineChance'. -/
def machineChanceCard : Claim7 := { stood := { row := machineChanceRow, standIns := [], harness := (true, "4c2eef86aa60871219ba2b2652f5efce440bb5c712ed3fc03a12960ed587c28f"), looks := true }, kinds := [], alts := [], laidByText := true, laidKinds := [.data, .pinned], laidTests := true, laidLooks := .later }
def MachineChanceCardSaid : Prop := Claim7.holds Tryd.pinned (.plain (OpenSpec.ofChange machineChanceSpec)) machineChanceCard

/-- THE TIED CARD OF 'cordwoodlaw29.MachineArithmetic'. -/
def machineArithmeticCard : Claim7 := { stood := { row := machineArithmeticRow, standIns := [], harness := (true, "4c2eef86aa60871219ba2b2652f5efce440bb5c712ed3fc03a12960ed587c28f"), looks := true }, kinds := [], alts := [], laidByText := true, laidKinds := [.data, .pinned], laidTests := true, laidLooks := .later }
def MachineArithmeticCardSaid : Prop := Claim7.holds Tryd.pinned (.plain (OpenSpec.ofChange machineArithmeticSpec)) machineArithmeticCard

/-- THE TIED CARD OF 'cordwoodlaw29.MachineLists'. -/
def machineListsCard : Claim7 := { stood := { row := machineListsRow, standIns := [], harness := (true, "4c2eef86aa60871219ba2b2652f5efce440bb5c712ed3fc03a12960ed587c28f"), looks := true }, kinds := [], alts := [], laidByText := true, laidKinds := [.data, .pinned], laidTests := true, laidLooks := .later }
def MachineListsCardSaid : Prop := Claim7.holds Tryd.pinned (.plain (OpenSpec.ofChange machineListsSpec)) machineListsCard

/-- THE TIED CARD OF 'cordwoodlaw29.MachineFunctions'. -/
def machineFunctionsCard : Claim7 := { stood := { row := machineFunctionsRow, standIns := [], harness := (true, "4c2eef86aa60871219ba2b2652f5efce440bb5c712ed3fc03a12960ed587c28f"), looks := true }, kinds := [], alts := [], laidByText := true, laidKinds := [.data, .pinned], laidTests := true, laidLooks := .later }
def MachineFunctionsCardSaid : Prop := Claim7.holds Tryd.pinned (.plain (OpenSpec.ofChange machineFunctionsSpec)) machineFunctionsCard

/-- THE TIED CARD OF 'cordwoodlaw29.MachinePieces'. -/
def machinePiecesCard : Claim7 := { stood := { row := machinePiecesRow, standIns := [], harness := (true, "4c2eef86aa60871219ba2b2652f5efce440bb5c712ed3fc03a12960ed587c28f"), looks := true }, kinds := [], alts := [], laidByText := true, laidKinds := [.data, .pinned], laidTests := true, laidLooks := .later }
def MachinePiecesCardSaid : Prop := Claim7.holds Tryd.pinned (.plain (OpenSpec.ofChange machinePiecesSpec)) machinePiecesCard

/-- THE TIED CARD OF 'cordwoodlaw29.MachineEnds'. -/
def machineEndsCard : Claim7 := { stood := { row := machineEndsRow, standIns := [], harness := (true, "4c2eef86aa60871219ba2b2652f5efce440bb5c712ed3fc03a12960ed587c28f"), looks := true }, kinds := [], alts := [], laidByText := true, laidKinds := [.data, .pinned], laidTests := true, laidLooks := .later }
def MachineEndsCardSaid : Prop := Claim7.holds Tryd.pinned (.plain (OpenSpec.ofChange machineEndsSpec)) machineEndsCard

/-- THE SECOND FORM's CARD OF 'cordwoodlaw29.MachineCheck'. -/
def machineCheckUptoCard : Claim7 := { stood := { row := machineCheckUptoRow, standIns := [], harness := (true, "4c2eef86aa60871219ba2b2652f5efce440bb5c712ed3fc03a12960ed587c28f"), looks := true }, kinds := [], alts := [], laidByText := true, laidKinds := [.data, .pinned], laidTests := true, laidLooks := .later }
def MachineCheckUptoCardSaid : Prop := Claim7.holds Tryd.pinned (.plain (OpenSpec.upto machineCheckSpec)) machineCheckUptoCard

/-- THE SECOND FORM's CARD OF 'cordwoodlaw29.MachineBegin'. -/
def machineBeginUptoCard : Claim7 := { stood := { row := machineBeginUptoRow, standIns := [], harness := (true, "4c2eef86aa60871219ba2b2652f5efce440bb5c712ed3fc03a12960ed587c28f"), looks := true }, kinds := [], alts := [], laidByText := true, laidKinds := [.data, .pinned], laidTests := true, laidLooks := .later }
def MachineBeginUptoCardSaid : Prop := Claim7.holds Tryd.pinned (.plain (OpenSpec.upto machineBeginSpec)) machineBeginUptoCard

/-- THE SECOND FORM's CARD OF 'cordwoodlaw29.MachineChance'. -/
def machineChanceUptoCard : Claim7 := { stood := { row := machineChanceUptoRow, standIns := [], harness := (true, "4c2eef86aa60871219ba2b2652f5efce440bb5c712ed3fc03a12960ed587c28f"), looks := true }, kinds := [], alts := [], laidByText := true, laidKinds := [.data, .pinned], laidTests := true, laidLooks := .later }
def MachineChanceUptoCardSaid : Prop := Claim7.holds Tryd.pinned (.plain (OpenSpec.upto machineChanceSpec)) machineChanceUptoCard

/-- THE SECOND FORM's CARD OF 'cordwoodlaw29.MachineArithmetic'. -/
def machineArithmeticUptoCard : Claim7 := { stood := { row := machineArithmeticUptoRow, standIns := [], harness := (true, "4c2eef86aa60871219ba2b2652f5efce440bb5c712ed3fc03a12960ed587c28f"), looks := true }, kinds := [], alts := [], laidByText := true, laidKinds := [.data, .pinned], laidTests := true, laidLooks := .later }
def MachineArithmeticUptoCardSaid : Prop := Claim7.holds Tryd.pinned (.plain (OpenSpec.upto machineArithmeticSpec)) machineArithmeticUptoCard

/-- THE SECOND FORM's CARD OF 'cordwoodlaw29.MachineLists'. -/
def machineListsUptoCard : Claim7 := { stood := { row := machineListsUptoRow, standIns := [], harness := (true, "4c2eef86aa60871219ba2b2652f5efce440bb5c712ed3fc03a12960ed587c28f"), looks := true }, kinds := [], alts := [], laidByText := true, laidKinds := [.data, .pinned], laidTests := true, laidLooks := .later }
def MachineListsUptoCardSaid : Prop := Claim7.holds Tryd.pinned (.plain (OpenSpec.upto machineListsSpec)) machineListsUptoCard

/-- THE SECOND FORM's CARD OF 'cordwoodlaw29.MachineFunctions'. -/
def machineFunctionsUptoCard : Claim7 := { stood := { row := machineFunctionsUptoRow, standIns := [], harness := (true, "4c2eef86aa60871219ba2b2652f5efce440bb5c712ed3fc03a12960ed587c28f"), looks := true }, kinds := [], alts := [], laidByText := true, laidKinds := [.data, .pinned], laidTests := true, laidLooks := .later }
def MachineFunctionsUptoCardSaid : Prop := Claim7.holds Tryd.pinned (.plain (OpenSpec.upto machineFunctionsSpec)) machineFunctionsUptoCard

/-- THE SECOND FORM's CARD OF 'cordwoodlaw29.MachinePieces'. -/
def machinePiecesUptoCard : Claim7 := { stood := { row := machinePiecesUptoRow, standIns := [], harness := (true, "4c2eef86aa60871219ba2b2652f5efce440bb5c712ed3fc03a12960ed587c28f"), looks := true }, kinds := [], alts := [], laidByText := true, laidKinds := [.data, .pinned], laidTests := true, laidLooks := .later }
def MachinePiecesUptoCardSaid : Prop := Claim7.holds Tryd.pinned (.plain (OpenSpec.upto machinePiecesSpec)) machinePiecesUptoCard

/-- THE SECOND FORM's CARD OF 'cordwoodlaw29.MachineEnds'. -/
def machineEndsUptoCard : Claim7 := { stood := { row := machineEndsUptoRow, standIns := [], harness := (true, "4c2eef86aa60871219ba2b2652f5efce440bb5c712ed3fc03a12960ed587c28f"), looks := true }, kinds := [], alts := [], laidByText := true, laidKinds := [.data, .pinned], laidTests := true, laidLooks := .later }
def MachineEndsUptoCardSaid : Prop := Claim7.holds Tryd.pinned (.plain (OpenSpec.upto machineEndsSpec)) machineEndsUptoCard
end Rows
end Go.Proofs.YtdfllhmkgphcmaaDoor
