/-
  NARROWER THAN 'FOR EVERY INPUT', by the rows' own cells (each row's printed sentence says how): TopThrough: loops, laid · TopPrivate: loops, laid · TopThereAndBack: loops, laid.
  DERIVED. THE GIVEN ROWS OF THIS SEAT. 3 by the template 'for every input the law returns true; each argument reads behind the call as it read before'; 0 by the template 'total and deterministic' (their statements: YtiaenhlflgobfaaGreatDoorTotals.lean).
  GIVEN WITH THE SEED: the statements are not yours to turn. If you find one false, say at which input.
  Laid BY PROGRAM, IN A SANDBOX (cutbox-rows.mjs): the forced cells as the released guide's own fill.sh prints them over the translation 7534500fd097b98d… (all of the seat's roots in one cut). By AI agents, Wed Nov 11 2026. No macro, syntax, notation, axiom, sorry.
-/
import Derived.Test.YtiaenhlflgobfaaGreatDoorChecked
import GoSem.PinnedTables
import GoSem.Claim
import GoSem.ClaimJoined
import GoSem.ClaimMapViews
import Derived.JoinedTies
import Derived.KernelRfl
namespace Go.Proofs.YtiaenhlflgobfaaGreatDoor
/- THE CELL 'sum', in the pinned program and in every row, IS THE sha256 OF THE DUMP (.gsa) THAT YtiaenhlflgobfaaGreatDoorProg.lean LOADS. Nothing in Lean hashes anything: it is a label: what it is worth is what the hold of that sum in a sandbox is worth. -/
noncomputable def Tryz.pinned : Pinned := { name := "ytiaenhlflgobfaagreatdoor", sum := "7534500fd097b98d7fdc03e9d7cbbecf6ed3f840362adc6d16dfe7823fe94cf3", checked := Tryz.checked }
namespace Rows
def none {H : Type} : Left H := { results := [], args := [] }

/- WHAT THE LISTED PACKAGE-LEVEL VARIABLES READ AS WHEN THE CALL BEGINS. Each datum BY PROGRAM (the guide's laid-datum.mjs) off the statement by which the dump's own 'gosem.cut.vars' lays the variable. In a bare row this is a premise. The card (YtiaenhlflgobfaaGreatDoorCards.lean) ties it to the program's text. -/
def laid_unicode_utf8_acceptRanges {H : Type} : DataW H := .agg [.agg [.lit (.int .u8 128), .lit (.int .u8 191)], .agg [.lit (.int .u8 160), .lit (.int .u8 191)], .agg [.lit (.int .u8 128), .lit (.int .u8 159)], .agg [.lit (.int .u8 144), .lit (.int .u8 191)], .agg [.lit (.int .u8 128), .lit (.int .u8 143)], .agg [.lit (.int .u8 0), .lit (.int .u8 0)], .agg [.lit (.int .u8 0), .lit (.int .u8 0)], .agg [.lit (.int .u8 0), .lit (.int .u8 0)], .agg [.lit (.int .u8 0), .lit (.int .u8 0)], .agg [.lit (.int .u8 0), .lit (.int .u8 0)], .agg [.lit (.int .u8 0), .lit (.int .u8 0)], .agg [.lit (.int .u8 0), .lit (.int .u8 0)], .agg [.lit (.int .u8 0), .lit (.int .u8 0)], .agg [.lit (.int .u8 0), .lit (.int .u8 0)], .agg [.lit (.int .u8 0), .lit (.int .u8 0)], .agg [.lit (.int .u8 0), .lit (.int .u8 0)]]
/-- One of Go's own tables, pinned by name: the form's constant. -/
def laid_unicode_utf8_first : DataW Unit := Go.Pinned.utf8First

/-- 'cordwoodtop.TopThrough': WHATEVER THE INPUT: true; the input reads as it did. -/
def topThroughSpec : ChangeSpec := { name := "topThrough", fn := fun _ => fun
  | [d1, d2, d3] => { results := [.lit (.bool true)], args := [d1, d2, d3] }
  | _ => none }
def topThroughRow : OpenClaim := { program := "ytiaenhlflgobfaagreatdoor", sum := "7534500fd097b98d7fdc03e9d7cbbecf6ed3f840362adc6d16dfe7823fe94cf3", func := "cordwood/cordwoodtop.TopThrough", spec := "topThrough", inPlace := ["internal/bytealg.IndexByteString", "internal/bytealg.IndexString", "slices.overlaps[string]", "slices.overlaps[cordwood/api.Decl]", "internal/bytealg.abigen_runtime_cmpstring", "slices.overlaps[cordwood/api.Module]"], unfollowed := true, recurses := true, named := ["unicode/utf8.first", "unicode/utf8.acceptRanges", "internal/bytealg.MaxLen"], loops := true, plainKeys := false, apart := false, laid := [("unicode/utf8.acceptRanges", laid_unicode_utf8_acceptRanges), ("unicode/utf8.first", laid_unicode_utf8_first)] }
def TopThroughSaid : Prop := topThroughRow.holds Tryz.pinned (OpenSpec.ofChange topThroughSpec)

/-- ITS FALSE NEIGHBOUR: 'it returns false'. Refute it at one input. -/
def topThroughWrong : ChangeSpec := { name := "topThrough", fn := fun _ => fun
  | [d1, d2, d3] => { results := [.lit (.bool false)], args := [d1, d2, d3] }
  | _ => none }
def TopThroughWrongFalsely : Prop := topThroughRow.holds Tryz.pinned (OpenSpec.ofChange topThroughWrong)

/-- 'cordwoodtop.TopPrivate': WHATEVER THE INPUT: true; the input reads as it did. -/
def topPrivateSpec : ChangeSpec := { name := "topPrivate", fn := fun _ => fun
  | [d1, d2, d3] => { results := [.lit (.bool true)], args := [d1, d2, d3] }
  | _ => none }
def topPrivateRow : OpenClaim := { program := "ytiaenhlflgobfaagreatdoor", sum := "7534500fd097b98d7fdc03e9d7cbbecf6ed3f840362adc6d16dfe7823fe94cf3", func := "cordwood/cordwoodtop.TopPrivate", spec := "topPrivate", inPlace := ["internal/bytealg.IndexByteString", "internal/bytealg.IndexString", "slices.overlaps[string]", "slices.overlaps[cordwood/api.Decl]", "internal/bytealg.abigen_runtime_cmpstring", "slices.overlaps[cordwood/api.Module]"], unfollowed := true, recurses := true, named := ["unicode/utf8.first", "unicode/utf8.acceptRanges", "internal/bytealg.MaxLen"], loops := true, plainKeys := false, apart := false, laid := [("unicode/utf8.acceptRanges", laid_unicode_utf8_acceptRanges), ("unicode/utf8.first", laid_unicode_utf8_first)] }
def TopPrivateSaid : Prop := topPrivateRow.holds Tryz.pinned (OpenSpec.ofChange topPrivateSpec)

/-- ITS FALSE NEIGHBOUR: 'it returns false'. Refute it at one input. -/
def topPrivateWrong : ChangeSpec := { name := "topPrivate", fn := fun _ => fun
  | [d1, d2, d3] => { results := [.lit (.bool false)], args := [d1, d2, d3] }
  | _ => none }
def TopPrivateWrongFalsely : Prop := topPrivateRow.holds Tryz.pinned (OpenSpec.ofChange topPrivateWrong)

/-- 'cordwoodtop.TopThereAndBack': WHATEVER THE INPUT: true; the input reads as it did. -/
def topThereAndBackSpec : ChangeSpec := { name := "topThereAndBack", fn := fun _ => fun
  | [d1, d2] => { results := [.lit (.bool true)], args := [d1, d2] }
  | _ => none }
def topThereAndBackRow : OpenClaim := { program := "ytiaenhlflgobfaagreatdoor", sum := "7534500fd097b98d7fdc03e9d7cbbecf6ed3f840362adc6d16dfe7823fe94cf3", func := "cordwood/cordwoodtop.TopThereAndBack", spec := "topThereAndBack", inPlace := ["internal/bytealg.IndexByteString", "internal/bytealg.IndexString", "slices.overlaps[string]", "slices.overlaps[cordwood/api.Decl]", "internal/bytealg.abigen_runtime_cmpstring", "slices.overlaps[cordwood/api.Module]", "internal/abi.NoEscape"], unfollowed := true, recurses := true, named := ["unicode/utf8.first", "unicode/utf8.acceptRanges", "internal/bytealg.MaxLen"], loops := true, plainKeys := false, apart := false, laid := [("unicode/utf8.acceptRanges", laid_unicode_utf8_acceptRanges), ("unicode/utf8.first", laid_unicode_utf8_first)] }
def TopThereAndBackSaid : Prop := topThereAndBackRow.holds Tryz.pinned (OpenSpec.ofChange topThereAndBackSpec)

/-- ITS FALSE NEIGHBOUR: 'it returns false'. Refute it at one input. -/
def topThereAndBackWrong : ChangeSpec := { name := "topThereAndBack", fn := fun _ => fun
  | [d1, d2] => { results := [.lit (.bool false)], args := [d1, d2] }
  | _ => none }
def TopThereAndBackWrongFalsely : Prop := topThereAndBackRow.holds Tryz.pinned (OpenSpec.ofChange topThereAndBackWrong)

/- THE SECOND FORM. 'bulk': how many values and letters a reading holds, each counted each time it is reached (what is shared counts as often as it is met; a slice's spare places count too). A statement '..UptoSaid' is the law's where the arguments, and the package variables that the reading takes, are together of bulk at most 1048576: NARROWER than '..Said'. Prove '..Said' where nothing that the law and all that it calls make is longer than what came in: it says more and counts as full. Else prove '..UptoSaid'. A law counts once. -/
mutual
def uptoBulk {H : Type} : DataW H → Nat
  | .lit (.string bytes) => bytes.length + 1
  | .lit _ => 1
  | .nil => 1
  | .ptr d => uptoBulk d + 1
  | .slice elems spare => uptoBulkAll elems + uptoBulkAll spare + 1
  | .agg parts => uptoBulkAll parts + 1
  | .iface _ d => uptoBulk d + 1
  | .map entries => uptoBulkEntries entries + 1
  | .held _ => 1
def uptoBulkAll {H : Type} : List (DataW H) → Nat
  | [] => 0
  | d :: r => uptoBulk d + uptoBulkAll r
def uptoBulkEntries {H : Type} : List (Lit × DataW H) → Nat
  | [] => 0
  | x :: r => uptoBulkEntry x + uptoBulkEntries r
def uptoBulkEntry {H : Type} : Lit × DataW H → Nat
  | (.string bytes, d) => bytes.length + uptoBulk d + 1
  | (_, d) => uptoBulk d + 1
 end
def uptoSmall : (H : Type) → List (DataW H) → Bool := fun _ ds => decide (uptoBulkAll ds ≤ 1048576)
def OpenSpec.upto (s : _root_.Go.ChangeSpec) : _root_.Go.OpenSpec := { _root_.Go.OpenSpec.ofChange s with cond := some uptoSmall }

/-- 'cordwoodtop.TopThrough', WHERE WHAT IT READS IS OF BULK AT MOST 1048576: true; the input reads as it did. -/
def topThroughUptoRow : OpenClaim := { program := "ytiaenhlflgobfaagreatdoor", sum := "7534500fd097b98d7fdc03e9d7cbbecf6ed3f840362adc6d16dfe7823fe94cf3", func := "cordwood/cordwoodtop.TopThrough", spec := "topThrough", inPlace := ["internal/bytealg.IndexByteString", "internal/bytealg.IndexString", "slices.overlaps[string]", "slices.overlaps[cordwood/api.Decl]", "internal/bytealg.abigen_runtime_cmpstring", "slices.overlaps[cordwood/api.Module]"], unfollowed := true, recurses := true, named := ["unicode/utf8.first", "unicode/utf8.acceptRanges", "internal/bytealg.MaxLen"], loops := true, plainKeys := false, apart := false, laid := [("unicode/utf8.acceptRanges", laid_unicode_utf8_acceptRanges), ("unicode/utf8.first", laid_unicode_utf8_first)], narrowed := true }
def TopThroughUptoSaid : Prop := topThroughUptoRow.holds Tryz.pinned (OpenSpec.upto topThroughSpec)

/-- 'cordwoodtop.TopPrivate', WHERE WHAT IT READS IS OF BULK AT MOST 1048576: true; the input reads as it did. -/
def topPrivateUptoRow : OpenClaim := { program := "ytiaenhlflgobfaagreatdoor", sum := "7534500fd097b98d7fdc03e9d7cbbecf6ed3f840362adc6d16dfe7823fe94cf3", func := "cordwood/cordwoodtop.TopPrivate", spec := "topPrivate", inPlace := ["internal/bytealg.IndexByteString", "internal/bytealg.IndexString", "slices.overlaps[string]", "slices.overlaps[cordwood/api.Decl]", "internal/bytealg.abigen_runtime_cmpstring", "slices.overlaps[cordwood/api.Module]"], unfollowed := true, recurses := true, named := ["unicode/utf8.first", "unicode/utf8.acceptRanges", "internal/bytealg.MaxLen"], loops := true, plainKeys := false, apart := false, laid := [("unicode/utf8.acceptRanges", laid_unicode_utf8_acceptRanges), ("unicode/utf8.first", laid_unicode_utf8_first)], narrowed := true }
def TopPrivateUptoSaid : Prop := topPrivateUptoRow.holds Tryz.pinned (OpenSpec.upto topPrivateSpec)

/-- 'cordwoodtop.TopThereAndBack', WHERE WHAT IT READS IS OF BULK AT MOST 1048576: true; the input reads as it did. -/
def topThereAndBackUptoRow : OpenClaim := { program := "ytiaenhlflgobfaagreatdoor", sum := "7534500fd097b98d7fdc03e9d7cbbecf6ed3f840362adc6d16dfe7823fe94cf3", func := "cordwood/cordwoodtop.TopThereAndBack", spec := "topThereAndBack", inPlace := ["internal/bytealg.IndexByteString", "internal/bytealg.IndexString", "slices.overlaps[string]", "slices.overlaps[cordwood/api.Decl]", "internal/bytealg.abigen_runtime_cmpstring", "slices.overlaps[cordwood/api.Module]", "internal/abi.NoEscape"], unfollowed := true, recurses := true, named := ["unicode/utf8.first", "unicode/utf8.acceptRanges", "internal/bytealg.MaxLen"], loops := true, plainKeys := false, apart := false, laid := [("unicode/utf8.acceptRanges", laid_unicode_utf8_acceptRanges), ("unicode/utf8.first", laid_unicode_utf8_first)], narrowed := true }
def TopThereAndBackUptoSaid : Prop := topThereAndBackUptoRow.holds Tryz.pinned (OpenSpec.upto topThereAndBackSpec)

end Rows
end Go.Proofs.YtiaenhlflgobfaaGreatDoor
