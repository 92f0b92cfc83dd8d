/-
  DERIVED. GIVEN WITH THE SEED: THE CARDS: each row of YtgboboljgcfggaaDoorRows.lean that lists a variable, with what it lists TIED to the program's text (the seventh form; the later family's looks); each row that meets fmt, with fmt's text TOLD by the authors' own Lean function (tested against real Go, not proved from fmt's source: count such statements apart). THE CARD IS WHAT COUNTS. Prove the row's statement (the work); the ties are given (YtgboboljgcfggaaDoorTie.lean); close each card by the builder's one call (the guide's Derived/Test/ToyasCard.lean, 'card_holds'). Laid BY PROGRAM, IN A SANDBOX (cutbox-door.mjs). By AI agents, Wed Nov 11 2026. No macro, syntax, notation, axiom, sorry.
-/
import Derived.Test.YtgboboljgcfggaaDoorRows
import GoSem.ClaimSeven
namespace Go.Proofs.YtgboboljgcfggaaDoor
namespace Rows

/-- THE TIED CARD OF 'cordwoodlaw30.LinkLink'. -/
def linkLinkCard : Claim7 := { stood := { row := linkLinkRow, standIns := [], harness := (true, "ae70739856eb622701cc1d50a601ba67c1047da8b177681e256f974ec26d8ea9"), looks := false }, kinds := [], alts := [], laidByText := true, laidKinds := [.data, .pinned], laidTests := true, laidLooks := .later }
def LinkLinkCardSaid : Prop := Claim7.holds Tryd.pinned (.plain (OpenSpec.ofChange linkLinkSpec)) linkLinkCard

/-- THE TIED CARD OF 'cordwoodlaw30.LinkValid'. -/
def linkValidCard : Claim7 := { stood := { row := linkValidRow, standIns := [], harness := (true, "ae70739856eb622701cc1d50a601ba67c1047da8b177681e256f974ec26d8ea9"), looks := false }, kinds := [], alts := [], laidByText := true, laidKinds := [.data, .pinned], laidTests := true, laidLooks := .later }
def LinkValidCardSaid : Prop := Claim7.holds Tryd.pinned (.plain (OpenSpec.ofChange linkValidSpec)) linkValidCard

/-- THE TIED CARD OF 'cordwoodlaw30.LinkOrder'. -/
def linkOrderCard : Claim7 := { stood := { row := linkOrderRow, standIns := [], harness := (true, "ae70739856eb622701cc1d50a601ba67c1047da8b177681e256f974ec26d8ea9"), looks := false }, kinds := [], alts := [], laidByText := true, laidKinds := [.data, .pinned], laidTests := true, laidLooks := .later }
def LinkOrderCardSaid : Prop := Claim7.holds Tryd.pinned (.plain (OpenSpec.ofChange linkOrderSpec)) linkOrderCard

/-- THE TIED CARD OF 'cordwoodlaw30.LinkEncoding'. -/
def linkEncodingCard : Claim7 := { stood := { row := linkEncodingRow, standIns := [], harness := (true, "ae70739856eb622701cc1d50a601ba67c1047da8b177681e256f974ec26d8ea9"), looks := false }, kinds := [], alts := [], laidByText := true, laidKinds := [.data, .pinned], laidTests := true, laidLooks := .later }
def LinkEncodingCardSaid : Prop := Claim7.holds Tryd.pinned (.plain (OpenSpec.ofChange linkEncodingSpec)) linkEncodingCard

/-- THE SECOND FORM's CARD OF 'cordwoodlaw30.LinkLink'. -/
def linkLinkUptoCard : Claim7 := { stood := { row := linkLinkUptoRow, standIns := [], harness := (true, "ae70739856eb622701cc1d50a601ba67c1047da8b177681e256f974ec26d8ea9"), looks := false }, kinds := [], alts := [], laidByText := true, laidKinds := [.data, .pinned], laidTests := true, laidLooks := .later }
def LinkLinkUptoCardSaid : Prop := Claim7.holds Tryd.pinned (.plain (OpenSpec.upto linkLinkSpec)) linkLinkUptoCard

/-- THE SECOND FORM's CARD OF 'cordwoodlaw30.LinkValid'. -/
def linkValidUptoCard : Claim7 := { stood := { row := linkValidUptoRow, standIns := [], harness := (true, "ae70739856eb622701cc1d50a601ba67c1047da8b177681e256f974ec26d8ea9"), looks := false }, kinds := [], alts := [], laidByText := true, laidKinds := [.data, .pinned], laidTests := true, laidLooks := .later }
def LinkValidUptoCardSaid : Prop := Claim7.holds Tryd.pinned (.plain (OpenSpec.upto linkValidSpec)) linkValidUptoCard

/-- THE SECOND FORM's CARD OF 'cordwoodlaw30.LinkOrder'. -/
def linkOrderUptoCard : Claim7 := { stood := { row := linkOrderUptoRow, standIns := [], harness := (true, "ae70739856eb622701cc1d50a601ba67c1047da8b177681e256f974ec26d8ea9"), looks := false }, kinds := [], alts := [], laidByText := true, laidKinds := [.data, .pinned], laidTests := true, laidLooks := .later }
def LinkOrderUptoCardSaid : Prop := Claim7.holds Tryd.pinned (.plain (OpenSpec.upto linkOrderSpec)) linkOrderUptoCard

/-- THE SECOND FORM's CARD OF 'cordwoodlaw30.LinkEncoding'. -/
def linkEncodingUptoCard : Claim7 := { stood := { row := linkEncodingUptoRow, standIns := [], harness := (true, "ae70739856eb622701cc1d50a601ba67c1047da8b177681e256f974ec26d8ea9"), looks := false }, kinds := [], alts := [], laidByText := true, laidKinds := [.data, .pinned], laidTests := true, laidLooks := .later }
def LinkEncodingUptoCardSaid : Prop := Claim7.holds Tryd.pinned (.plain (OpenSpec.upto linkEncodingSpec)) linkEncodingUptoCard
end Rows
end Go.Proofs.YtgboboljgcfggaaDoor
