/-
  DERIVED. GIVEN WITH THE SEED: THE CARDS: each row of YtiaenhlflgobfaaGreatDoorRows.lean that lists a variable, with what it lists TIED to the program's text (the seventh form; the later family's looks); each row that meets fmt, with fmt's text TOLD by the authors' own Lean function (tested against real Go, not proved from fmt's source: count such statements apart). THE CARD IS WHAT COUNTS. Prove the row's statement (the work); the ties are given (YtiaenhlflgobfaaGreatDoorTie.lean); close each card by the builder's one call (the guide's Derived/Test/ToyasCard.lean, 'card_holds'). Laid BY PROGRAM, IN A SANDBOX (cutbox-door.mjs). By AI agents, Wed Nov 11 2026. No macro, syntax, notation, axiom, sorry.
-/
import Derived.Test.YtiaenhlflgobfaaGreatDoorRows
import GoSem.ClaimSeven
namespace Go.Proofs.YtiaenhlflgobfaaGreatDoor
namespace Rows

/-- THE TIED CARD OF 'cordwoodtop.TopThrough'. -/
def topThroughCard : Claim7 := { stood := { row := topThroughRow, standIns := [], harness := (true, "4d7a4dfdbd2ac54591fa832d7333a7dcd676f0a243161854fdf844ce19615215"), looks := false }, kinds := [], alts := [], laidByText := true, laidKinds := [.data, .pinned], laidTests := true, laidLooks := .later }
def TopThroughCardSaid : Prop := Claim7.holds Tryz.pinned (.plain (OpenSpec.ofChange topThroughSpec)) topThroughCard

/-- THE TIED CARD OF 'cordwoodtop.TopPrivate'. -/
def topPrivateCard : Claim7 := { stood := { row := topPrivateRow, standIns := [], harness := (true, "4d7a4dfdbd2ac54591fa832d7333a7dcd676f0a243161854fdf844ce19615215"), looks := false }, kinds := [], alts := [], laidByText := true, laidKinds := [.data, .pinned], laidTests := true, laidLooks := .later }
def TopPrivateCardSaid : Prop := Claim7.holds Tryz.pinned (.plain (OpenSpec.ofChange topPrivateSpec)) topPrivateCard

/-- THE TIED CARD OF 'cordwoodtop.TopThereAndBack'. -/
def topThereAndBackCard : Claim7 := { stood := { row := topThereAndBackRow, standIns := [], harness := (true, "4d7a4dfdbd2ac54591fa832d7333a7dcd676f0a243161854fdf844ce19615215"), looks := false }, kinds := [], alts := [], laidByText := true, laidKinds := [.data, .pinned], laidTests := true, laidLooks := .later }
def TopThereAndBackCardSaid : Prop := Claim7.holds Tryz.pinned (.plain (OpenSpec.ofChange topThereAndBackSpec)) topThereAndBackCard

/-- THE SECOND FORM's CARD OF 'cordwoodtop.TopThrough'. -/
def topThroughUptoCard : Claim7 := { stood := { row := topThroughUptoRow, standIns := [], harness := (true, "4d7a4dfdbd2ac54591fa832d7333a7dcd676f0a243161854fdf844ce19615215"), looks := false }, kinds := [], alts := [], laidByText := true, laidKinds := [.data, .pinned], laidTests := true, laidLooks := .later }
def TopThroughUptoCardSaid : Prop := Claim7.holds Tryz.pinned (.plain (OpenSpec.upto topThroughSpec)) topThroughUptoCard

/-- THE SECOND FORM's CARD OF 'cordwoodtop.TopPrivate'. -/
def topPrivateUptoCard : Claim7 := { stood := { row := topPrivateUptoRow, standIns := [], harness := (true, "4d7a4dfdbd2ac54591fa832d7333a7dcd676f0a243161854fdf844ce19615215"), looks := false }, kinds := [], alts := [], laidByText := true, laidKinds := [.data, .pinned], laidTests := true, laidLooks := .later }
def TopPrivateUptoCardSaid : Prop := Claim7.holds Tryz.pinned (.plain (OpenSpec.upto topPrivateSpec)) topPrivateUptoCard

/-- THE SECOND FORM's CARD OF 'cordwoodtop.TopThereAndBack'. -/
def topThereAndBackUptoCard : Claim7 := { stood := { row := topThereAndBackUptoRow, standIns := [], harness := (true, "4d7a4dfdbd2ac54591fa832d7333a7dcd676f0a243161854fdf844ce19615215"), looks := false }, kinds := [], alts := [], laidByText := true, laidKinds := [.data, .pinned], laidTests := true, laidLooks := .later }
def TopThereAndBackUptoCardSaid : Prop := Claim7.holds Tryz.pinned (.plain (OpenSpec.upto topThereAndBackSpec)) topThereAndBackUptoCard
end Rows
end Go.Proofs.YtiaenhlflgobfaaGreatDoor
