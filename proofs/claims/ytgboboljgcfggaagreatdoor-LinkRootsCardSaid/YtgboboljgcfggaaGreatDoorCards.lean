/-
  DERIVED. GIVEN WITH THE SEED: THE CARDS: each row of YtgboboljgcfggaaGreatDoorRows.lean that lists a variable, with what it lists TIED to the program's text (the seventh form; the later family's looks); each row that meets fmt, with fmt's text TOLD by the authors' own Lean function (tested against real Go, not proved from fmt's source: count such statements apart). THE CARD IS WHAT COUNTS. Prove the row's statement (the work); the ties are given (YtgboboljgcfggaaGreatDoorTie.lean); close each card by the builder's one call (the guide's Derived/Test/ToyasCard.lean, 'card_holds'). Laid BY PROGRAM, IN A SANDBOX (cutbox-door.mjs). By AI agents, Wed Nov 11 2026. No macro, syntax, notation, axiom, sorry.
-/
import Derived.Test.YtgboboljgcfggaaGreatDoorRows
import GoSem.ClaimSeven
namespace Go.Proofs.YtgboboljgcfggaaGreatDoor
namespace Rows

/-- THE TIED CARD OF 'cordwoodlaw30.LinkDecode'. -/
def linkDecodeCard : Claim7 := { stood := { row := linkDecodeRow, standIns := [], harness := (true, "17912ac32cbf28dd09ffaf44fc15aaaab6fdf9db2b433aebc1e7f51b31329a13"), looks := true }, kinds := [], alts := [], laidByText := true, laidKinds := [.data, .pinned], laidTests := true, laidLooks := .later }
def LinkDecodeCardSaid : Prop := Claim7.holds Tryz.pinned (.plain (OpenSpec.ofChange linkDecodeSpec)) linkDecodeCard

/-- THE TIED CARD OF 'cordwoodlaw30.LinkStart'. -/
def linkStartCard : Claim7 := { stood := { row := linkStartRow, standIns := [], harness := (true, "17912ac32cbf28dd09ffaf44fc15aaaab6fdf9db2b433aebc1e7f51b31329a13"), looks := true }, kinds := [], alts := [], laidByText := true, laidKinds := [.data, .pinned], laidTests := true, laidLooks := .later }
def LinkStartCardSaid : Prop := Claim7.holds Tryz.pinned (.plain (OpenSpec.ofChange linkStartSpec)) linkStartCard

/-- THE TIED CARD OF 'cordwoodlaw30.LinkRoots'. -/
def linkRootsCard : Claim7 := { stood := { row := linkRootsRow, standIns := [], harness := (true, "17912ac32cbf28dd09ffaf44fc15aaaab6fdf9db2b433aebc1e7f51b31329a13"), looks := true }, kinds := [], alts := [], laidByText := true, laidKinds := [.data, .pinned], laidTests := true, laidLooks := .later }
def LinkRootsCardSaid : Prop := Claim7.holds Tryz.pinned (.plain (OpenSpec.ofChange linkRootsSpec)) linkRootsCard

/-- THE SECOND FORM's CARD OF 'cordwoodlaw30.LinkDecode'. -/
def linkDecodeUptoCard : Claim7 := { stood := { row := linkDecodeUptoRow, standIns := [], harness := (true, "17912ac32cbf28dd09ffaf44fc15aaaab6fdf9db2b433aebc1e7f51b31329a13"), looks := true }, kinds := [], alts := [], laidByText := true, laidKinds := [.data, .pinned], laidTests := true, laidLooks := .later }
def LinkDecodeUptoCardSaid : Prop := Claim7.holds Tryz.pinned (.plain (OpenSpec.upto linkDecodeSpec)) linkDecodeUptoCard

/-- THE SECOND FORM's CARD OF 'cordwoodlaw30.LinkStart'. -/
def linkStartUptoCard : Claim7 := { stood := { row := linkStartUptoRow, standIns := [], harness := (true, "17912ac32cbf28dd09ffaf44fc15aaaab6fdf9db2b433aebc1e7f51b31329a13"), looks := true }, kinds := [], alts := [], laidByText := true, laidKinds := [.data, .pinned], laidTests := true, laidLooks := .later }
def LinkStartUptoCardSaid : Prop := Claim7.holds Tryz.pinned (.plain (OpenSpec.upto linkStartSpec)) linkStartUptoCard

/-- THE SECOND FORM's CARD OF 'cordwoodlaw30.LinkRoots'. -/
def linkRootsUptoCard : Claim7 := { stood := { row := linkRootsUptoRow, standIns := [], harness := (true, "17912ac32cbf28dd09ffaf44fc15aaaab6fdf9db2b433aebc1e7f51b31329a13"), looks := true }, kinds := [], alts := [], laidByText := true, laidKinds := [.data, .pinned], laidTests := true, laidLooks := .later }
def LinkRootsUptoCardSaid : Prop := Claim7.holds Tryz.pinned (.plain (OpenSpec.upto linkRootsSpec)) linkRootsUptoCard
end Rows
end Go.Proofs.YtgboboljgcfggaaGreatDoor
