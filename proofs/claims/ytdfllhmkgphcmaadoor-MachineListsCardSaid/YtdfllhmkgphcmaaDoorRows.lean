/-
  NARROWER THAN 'FOR EVERY INPUT', by the rows' own cells (each row's printed sentence says how): MachineCheck: laid · MachineBegin: laid · MachineChance: laid · MachineArithmetic: laid · MachineLists: laid · MachineFunctions: laid · MachinePieces: laid · MachineEnds: laid.
  DERIVED. THE GIVEN ROWS OF THIS SEAT. 8 by the template 'for every input the law returns true; each argument reads behind the call as it read before'; 0 by the template 'total and deterministic' (their statements: YtdfllhmkgphcmaaDoorTotals.lean).
  GIVEN WITH THE SEED: the statements are not yours to turn. If you find one false, say at which input.
  Laid BY PROGRAM, IN A SANDBOX (cutbox-rows.mjs): the forced cells as the released guide's own fill.sh prints them over the translation ec817f9ac0dc66ea… (all of the seat's roots in one cut). By AI agents, Wed Nov 11 2026. No macro, syntax, notation, axiom, sorry.
-/
import Derived.Test.YtdfllhmkgphcmaaDoorChecked
import GoSem.PinnedTables
import GoSem.Claim
import GoSem.ClaimJoined
import GoSem.ClaimMapViews
import Derived.JoinedTies
import Derived.KernelRfl
namespace Go.Proofs.YtdfllhmkgphcmaaDoor
/- THE CELL 'sum', in the pinned program and in every row, IS THE sha256 OF THE DUMP (.gsa) THAT YtdfllhmkgphcmaaDoorProg.lean LOADS. Nothing in Lean hashes anything: it is a label: what it is worth is what the hold of that sum in a sandbox is worth. -/
noncomputable def Tryd.pinned : Pinned := { name := "ytdfllhmkgphcmaadoor", sum := "ec817f9ac0dc66ea45a539594700c928703042db8aa11cbc9ac70077a0e997e6", checked := Tryd.checked }
namespace Rows
def none {H : Type} : Left H := { results := [], args := [] }

/- WHAT THE LISTED PACKAGE-LEVEL VARIABLES READ AS WHEN THE CALL BEGINS. Each datum BY PROGRAM (the guide's laid-datum.mjs) off the statement by which the dump's own 'gosem.cut.vars' lays the variable. In a bare row this is a premise. The card (YtdfllhmkgphcmaaDoorCards.lean) ties it to the program's text. -/
def laid_unicode_utf8_acceptRanges {H : Type} : DataW H := .agg [.agg [.lit (.int .u8 128), .lit (.int .u8 191)], .agg [.lit (.int .u8 160), .lit (.int .u8 191)], .agg [.lit (.int .u8 128), .lit (.int .u8 159)], .agg [.lit (.int .u8 144), .lit (.int .u8 191)], .agg [.lit (.int .u8 128), .lit (.int .u8 143)], .agg [.lit (.int .u8 0), .lit (.int .u8 0)], .agg [.lit (.int .u8 0), .lit (.int .u8 0)], .agg [.lit (.int .u8 0), .lit (.int .u8 0)], .agg [.lit (.int .u8 0), .lit (.int .u8 0)], .agg [.lit (.int .u8 0), .lit (.int .u8 0)], .agg [.lit (.int .u8 0), .lit (.int .u8 0)], .agg [.lit (.int .u8 0), .lit (.int .u8 0)], .agg [.lit (.int .u8 0), .lit (.int .u8 0)], .agg [.lit (.int .u8 0), .lit (.int .u8 0)], .agg [.lit (.int .u8 0), .lit (.int .u8 0)], .agg [.lit (.int .u8 0), .lit (.int .u8 0)]]
/-- One of Go's own tables, pinned by name: the form's constant. -/
def laid_unicode_utf8_first : DataW Unit := Go.Pinned.utf8First

/-- 'cordwoodlaw29.MachineCheck': WHATEVER THE INPUT: true; the input reads as it did. -/
def machineCheckSpec : ChangeSpec := { name := "machineCheck", fn := fun _ => fun
  | [d] => { results := [.lit (.bool true)], args := [d] }
  | _ => none }
def machineCheckRow : OpenClaim := { program := "ytdfllhmkgphcmaadoor", sum := "ec817f9ac0dc66ea45a539594700c928703042db8aa11cbc9ac70077a0e997e6", func := "cordwood/cordwoodlaw29.MachineCheck", spec := "machineCheck", inPlace := ["internal/bytealg.IndexByteString", "internal/bytealg.IndexString"], unfollowed := true, recurses := true, named := ["internal/bytealg.MaxLen", "unicode/utf8.first", "unicode/utf8.acceptRanges"], apart := false, laid := [("unicode/utf8.acceptRanges", laid_unicode_utf8_acceptRanges), ("unicode/utf8.first", laid_unicode_utf8_first)] }
def MachineCheckSaid : Prop := machineCheckRow.holds Tryd.pinned (OpenSpec.ofChange machineCheckSpec)

/-- ITS FALSE NEIGHBOUR: 'it returns false'. Refute it at one input. -/
def machineCheckWrong : ChangeSpec := { name := "machineCheck", fn := fun _ => fun
  | [d] => { results := [.lit (.bool false)], args := [d] }
  | _ => none }
def MachineCheckWrongFalsely : Prop := machineCheckRow.holds Tryd.pinned (OpenSpec.ofChange machineCheckWrong)

/-- 'cordwoodlaw29.MachineBegin': WHATEVER THE INPUT: true; the input reads as it did. -/
def machineBeginSpec : ChangeSpec := { name := "machineBegin", fn := fun _ => fun
  | [d1, d2, d3] => { results := [.lit (.bool true)], args := [d1, d2, d3] }
  | _ => none }
def machineBeginRow : OpenClaim := { program := "ytdfllhmkgphcmaadoor", sum := "ec817f9ac0dc66ea45a539594700c928703042db8aa11cbc9ac70077a0e997e6", func := "cordwood/cordwoodlaw29.MachineBegin", spec := "machineBegin", inPlace := ["internal/bytealg.IndexByteString", "internal/bytealg.IndexString"], unfollowed := true, recurses := true, named := ["internal/bytealg.MaxLen", "unicode/utf8.first", "unicode/utf8.acceptRanges"], apart := false, laid := [("unicode/utf8.acceptRanges", laid_unicode_utf8_acceptRanges), ("unicode/utf8.first", laid_unicode_utf8_first)] }
def MachineBeginSaid : Prop := machineBeginRow.holds Tryd.pinned (OpenSpec.ofChange machineBeginSpec)

/-- ITS FALSE NEIGHBOUR: 'it returns false'. Refute it at one input. -/
def machineBeginWrong : ChangeSpec := { name := "machineBegin", fn := fun _ => fun
  | [d1, d2, d3] => { results := [.lit (.bool false)], args := [d1, d2, d3] }
  | _ => none }
def MachineBeginWrongFalsely : Prop := machineBeginRow.holds Tryd.pinned (OpenSpec.ofChange machineBeginWrong)

/-- 'cordwoodlaw29.MachineChance': WHATEVER THE INPUT: true; the input reads as it did. -/
def machineChanceSpec : ChangeSpec := { name := "machineChance", fn := fun _ => fun
  | [d1, d2, d3] => { results := [.lit (.bool true)], args := [d1, d2, d3] }
  | _ => none }
def machineChanceRow : OpenClaim := { program := "ytdfllhmkgphcmaadoor", sum := "ec817f9ac0dc66ea45a539594700c928703042db8aa11cbc9ac70077a0e997e6", func := "cordwood/cordwoodlaw29.MachineChance", spec := "machineChance", inPlace := ["internal/bytealg.IndexByteString", "internal/bytealg.IndexString"], unfollowed := true, recurses := true, named := ["internal/bytealg.MaxLen", "unicode/utf8.first", "unicode/utf8.acceptRanges"], apart := false, laid := [("unicode/utf8.acceptRanges", laid_unicode_utf8_acceptRanges), ("unicode/utf8.first", laid_unicode_utf8_first)] }
def MachineChanceSaid : Prop := machineChanceRow.holds Tryd.pinned (OpenSpec.ofChange machineChanceSpec)

/-- ITS FALSE NEIGHBOUR: 'it returns false'. Refute it at one input. -/
def machineChanceWrong : ChangeSpec := { name := "machineChance", fn := fun _ => fun
  | [d1, d2, d3] => { results := [.lit (.bool false)], args := [d1, d2, d3] }
  | _ => none }
def MachineChanceWrongFalsely : Prop := machineChanceRow.holds Tryd.pinned (OpenSpec.ofChange machineChanceWrong)

/-- 'cordwoodlaw29.MachineArithmetic': WHATEVER THE INPUT: true; the input reads as it did. -/
def machineArithmeticSpec : ChangeSpec := { name := "machineArithmetic", fn := fun _ => fun
  | [d1, d2, d3] => { results := [.lit (.bool true)], args := [d1, d2, d3] }
  | _ => none }
def machineArithmeticRow : OpenClaim := { program := "ytdfllhmkgphcmaadoor", sum := "ec817f9ac0dc66ea45a539594700c928703042db8aa11cbc9ac70077a0e997e6", func := "cordwood/cordwoodlaw29.MachineArithmetic", spec := "machineArithmetic", inPlace := ["internal/bytealg.IndexByteString", "internal/bytealg.IndexString"], unfollowed := true, recurses := true, named := ["internal/bytealg.MaxLen", "unicode/utf8.first", "unicode/utf8.acceptRanges"], apart := false, laid := [("unicode/utf8.acceptRanges", laid_unicode_utf8_acceptRanges), ("unicode/utf8.first", laid_unicode_utf8_first)] }
def MachineArithmeticSaid : Prop := machineArithmeticRow.holds Tryd.pinned (OpenSpec.ofChange machineArithmeticSpec)

/-- ITS FALSE NEIGHBOUR: 'it returns false'. Refute it at one input. -/
def machineArithmeticWrong : ChangeSpec := { name := "machineArithmetic", fn := fun _ => fun
  | [d1, d2, d3] => { results := [.lit (.bool false)], args := [d1, d2, d3] }
  | _ => none }
def MachineArithmeticWrongFalsely : Prop := machineArithmeticRow.holds Tryd.pinned (OpenSpec.ofChange machineArithmeticWrong)

/-- 'cordwoodlaw29.MachineLists': WHATEVER THE INPUT: true; the input reads as it did. -/
def machineListsSpec : ChangeSpec := { name := "machineLists", fn := fun _ => fun
  | [d] => { results := [.lit (.bool true)], args := [d] }
  | _ => none }
def machineListsRow : OpenClaim := { program := "ytdfllhmkgphcmaadoor", sum := "ec817f9ac0dc66ea45a539594700c928703042db8aa11cbc9ac70077a0e997e6", func := "cordwood/cordwoodlaw29.MachineLists", spec := "machineLists", inPlace := ["internal/bytealg.IndexByteString", "internal/bytealg.IndexString"], unfollowed := true, recurses := true, named := ["internal/bytealg.MaxLen", "unicode/utf8.first", "unicode/utf8.acceptRanges"], apart := false, laid := [("unicode/utf8.acceptRanges", laid_unicode_utf8_acceptRanges), ("unicode/utf8.first", laid_unicode_utf8_first)] }
def MachineListsSaid : Prop := machineListsRow.holds Tryd.pinned (OpenSpec.ofChange machineListsSpec)

/-- ITS FALSE NEIGHBOUR: 'it returns false'. Refute it at one input. -/
def machineListsWrong : ChangeSpec := { name := "machineLists", fn := fun _ => fun
  | [d] => { results := [.lit (.bool false)], args := [d] }
  | _ => none }
def MachineListsWrongFalsely : Prop := machineListsRow.holds Tryd.pinned (OpenSpec.ofChange machineListsWrong)

/-- 'cordwoodlaw29.MachineFunctions': WHATEVER THE INPUT: true; the input reads as it did. -/
def machineFunctionsSpec : ChangeSpec := { name := "machineFunctions", fn := fun _ => fun
  | [d1, d2, d3] => { results := [.lit (.bool true)], args := [d1, d2, d3] }
  | _ => none }
def machineFunctionsRow : OpenClaim := { program := "ytdfllhmkgphcmaadoor", sum := "ec817f9ac0dc66ea45a539594700c928703042db8aa11cbc9ac70077a0e997e6", func := "cordwood/cordwoodlaw29.MachineFunctions", spec := "machineFunctions", inPlace := ["internal/bytealg.IndexByteString", "internal/bytealg.IndexString"], unfollowed := true, recurses := true, named := ["internal/bytealg.MaxLen", "unicode/utf8.first", "unicode/utf8.acceptRanges"], apart := false, laid := [("unicode/utf8.acceptRanges", laid_unicode_utf8_acceptRanges), ("unicode/utf8.first", laid_unicode_utf8_first)] }
def MachineFunctionsSaid : Prop := machineFunctionsRow.holds Tryd.pinned (OpenSpec.ofChange machineFunctionsSpec)

/-- ITS FALSE NEIGHBOUR: 'it returns false'. Refute it at one input. -/
def machineFunctionsWrong : ChangeSpec := { name := "machineFunctions", fn := fun _ => fun
  | [d1, d2, d3] => { results := [.lit (.bool false)], args := [d1, d2, d3] }
  | _ => none }
def MachineFunctionsWrongFalsely : Prop := machineFunctionsRow.holds Tryd.pinned (OpenSpec.ofChange machineFunctionsWrong)

/-- 'cordwoodlaw29.MachinePieces': WHATEVER THE INPUT: true; the input reads as it did. -/
def machinePiecesSpec : ChangeSpec := { name := "machinePieces", fn := fun _ => fun
  | [d1, d2, d3, d4] => { results := [.lit (.bool true)], args := [d1, d2, d3, d4] }
  | _ => none }
def machinePiecesRow : OpenClaim := { program := "ytdfllhmkgphcmaadoor", sum := "ec817f9ac0dc66ea45a539594700c928703042db8aa11cbc9ac70077a0e997e6", func := "cordwood/cordwoodlaw29.MachinePieces", spec := "machinePieces", inPlace := ["internal/bytealg.IndexByteString", "internal/bytealg.IndexString"], unfollowed := true, recurses := true, named := ["internal/bytealg.MaxLen", "unicode/utf8.first", "unicode/utf8.acceptRanges"], apart := false, laid := [("unicode/utf8.acceptRanges", laid_unicode_utf8_acceptRanges), ("unicode/utf8.first", laid_unicode_utf8_first)] }
def MachinePiecesSaid : Prop := machinePiecesRow.holds Tryd.pinned (OpenSpec.ofChange machinePiecesSpec)

/-- ITS FALSE NEIGHBOUR: 'it returns false'. Refute it at one input. -/
def machinePiecesWrong : ChangeSpec := { name := "machinePieces", fn := fun _ => fun
  | [d1, d2, d3, d4] => { results := [.lit (.bool false)], args := [d1, d2, d3, d4] }
  | _ => none }
def MachinePiecesWrongFalsely : Prop := machinePiecesRow.holds Tryd.pinned (OpenSpec.ofChange machinePiecesWrong)

/-- 'cordwoodlaw29.MachineEnds': WHATEVER THE INPUT: true; the input reads as it did. -/
def machineEndsSpec : ChangeSpec := { name := "machineEnds", fn := fun _ => fun
  | [d1, d2] => { results := [.lit (.bool true)], args := [d1, d2] }
  | _ => none }
def machineEndsRow : OpenClaim := { program := "ytdfllhmkgphcmaadoor", sum := "ec817f9ac0dc66ea45a539594700c928703042db8aa11cbc9ac70077a0e997e6", func := "cordwood/cordwoodlaw29.MachineEnds", spec := "machineEnds", inPlace := ["internal/bytealg.IndexByteString", "internal/bytealg.IndexString"], unfollowed := true, recurses := true, named := ["internal/bytealg.MaxLen", "unicode/utf8.first", "unicode/utf8.acceptRanges"], apart := false, laid := [("unicode/utf8.acceptRanges", laid_unicode_utf8_acceptRanges), ("unicode/utf8.first", laid_unicode_utf8_first)] }
def MachineEndsSaid : Prop := machineEndsRow.holds Tryd.pinned (OpenSpec.ofChange machineEndsSpec)

/-- ITS FALSE NEIGHBOUR: 'it returns false'. Refute it at one input. -/
def machineEndsWrong : ChangeSpec := { name := "machineEnds", fn := fun _ => fun
  | [d1, d2] => { results := [.lit (.bool false)], args := [d1, d2] }
  | _ => none }
def MachineEndsWrongFalsely : Prop := machineEndsRow.holds Tryd.pinned (OpenSpec.ofChange machineEndsWrong)

/- THE SECOND FORM. 'bulk': how many values and letters a reading holds, each counted each time it is reached (what is shared counts as often as it is met; a slice's spare places count too). A statement '..UptoSaid' is the law's where the arguments, and the package variables that the reading takes, are together of bulk at most 1048576: NARROWER than '..Said'. Prove '..Said' where nothing that the law and all that it calls make is longer than what came in: it says more and counts as full. Else prove '..UptoSaid'. A law counts once. -/
mutual
def uptoBulk {H : Type} : DataW H → Nat
  | .lit (.string bytes) => bytes.length + 1
  | .lit _ => 1
  | .nil => 1
  | .ptr d => uptoBulk d + 1
  | .slice elems spare => uptoBulkAll elems + uptoBulkAll spare + 1
  | .agg parts => uptoBulkAll parts + 1
  | .iface _ d => uptoBulk d + 1
  | .map entries => uptoBulkEntries entries + 1
  | .held _ => 1
def uptoBulkAll {H : Type} : List (DataW H) → Nat
  | [] => 0
  | d :: r => uptoBulk d + uptoBulkAll r
def uptoBulkEntries {H : Type} : List (Lit × DataW H) → Nat
  | [] => 0
  | x :: r => uptoBulkEntry x + uptoBulkEntries r
def uptoBulkEntry {H : Type} : Lit × DataW H → Nat
  | (.string bytes, d) => bytes.length + uptoBulk d + 1
  | (_, d) => uptoBulk d + 1
 end
def uptoSmall : (H : Type) → List (DataW H) → Bool := fun _ ds => decide (uptoBulkAll ds ≤ 1048576)
def OpenSpec.upto (s : _root_.Go.ChangeSpec) : _root_.Go.OpenSpec := { _root_.Go.OpenSpec.ofChange s with cond := some uptoSmall }

/-- 'cordwoodlaw29.MachineCheck', WHERE WHAT IT READS IS OF BULK AT MOST 1048576: true; the input reads as it did. -/
def machineCheckUptoRow : OpenClaim := { program := "ytdfllhmkgphcmaadoor", sum := "ec817f9ac0dc66ea45a539594700c928703042db8aa11cbc9ac70077a0e997e6", func := "cordwood/cordwoodlaw29.MachineCheck", spec := "machineCheck", inPlace := ["internal/bytealg.IndexByteString", "internal/bytealg.IndexString"], unfollowed := true, recurses := true, named := ["internal/bytealg.MaxLen", "unicode/utf8.first", "unicode/utf8.acceptRanges"], apart := false, laid := [("unicode/utf8.acceptRanges", laid_unicode_utf8_acceptRanges), ("unicode/utf8.first", laid_unicode_utf8_first)], narrowed := true }
def MachineCheckUptoSaid : Prop := machineCheckUptoRow.holds Tryd.pinned (OpenSpec.upto machineCheckSpec)

/-- 'cordwoodlaw29.MachineBegin', WHERE WHAT IT READS IS OF BULK AT MOST 1048576: true; the input reads as it did. -/
def machineBeginUptoRow : OpenClaim := { program := "ytdfllhmkgphcmaadoor", sum := "ec817f9ac0dc66ea45a539594700c928703042db8aa11cbc9ac70077a0e997e6", func := "cordwood/cordwoodlaw29.MachineBegin", spec := "machineBegin", inPlace := ["internal/bytealg.IndexByteString", "internal/bytealg.IndexString"], unfollowed := true, recurses := true, named := ["internal/bytealg.MaxLen", "unicode/utf8.first", "unicode/utf8.acceptRanges"], apart := false, laid := [("unicode/utf8.acceptRanges", laid_unicode_utf8_acceptRanges), ("unicode/utf8.first", laid_unicode_utf8_first)], narrowed := true }
def MachineBeginUptoSaid : Prop := machineBeginUptoRow.holds Tryd.pinned (OpenSpec.upto machineBeginSpec)

/-- 'cordwoodlaw29.MachineChance', WHERE WHAT IT READS IS OF BULK AT MOST 1048576: true; the input reads as it did. -/
def machineChanceUptoRow : OpenClaim := { program := "ytdfllhmkgphcmaadoor", sum := "ec817f9ac0dc66ea45a539594700c928703042db8aa11cbc9ac70077a0e997e6", func := "cordwood/cordwoodlaw29.MachineChance", spec := "machineChance", inPlace := ["internal/bytealg.IndexByteString", "internal/bytealg.IndexString"], unfollowed := true, recurses := true, named := ["internal/bytealg.MaxLen", "unicode/utf8.first", "unicode/utf8.acceptRanges"], apart := false, laid := [("unicode/utf8.acceptRanges", laid_unicode_utf8_acceptRanges), ("unicode/utf8.first", laid_unicode_utf8_first)], narrowed := true }
def MachineChanceUptoSaid : Prop := machineChanceUptoRow.holds Tryd.pinned (OpenSpec.upto machineChanceSpec)

/-- 'cordwoodlaw29.MachineArithmetic', WHERE WHAT IT READS IS OF BULK AT MOST 1048576: true; the input reads as it did. -/
def machineArithmeticUptoRow : OpenClaim := { program := "ytdfllhmkgphcmaadoor", sum := "ec817f9ac0dc66ea45a539594700c928703042db8aa11cbc9ac70077a0e997e6", func := "cordwood/cordwoodlaw29.MachineArithmetic", spec := "machineArithmetic", inPlace := ["internal/bytealg.IndexByteString", "internal/bytealg.IndexString"], unfollowed := true, recurses := true, named := ["internal/bytealg.MaxLen", "unicode/utf8.first", "unicode/utf8.acceptRanges"], apart := false, laid := [("unicode/utf8.acceptRanges", laid_unicode_utf8_acceptRanges), ("unicode/utf8.first", laid_unicode_utf8_first)], narrowed := true }
def MachineArithmeticUptoSaid : Prop := machineArithmeticUptoRow.holds Tryd.pinned (OpenSpec.upto machineArithmeticSpec)

/-- 'cordwoodlaw29.MachineLists', WHERE WHAT IT READS IS OF BULK AT MOST 1048576: true; the input reads as it did. -/
def machineListsUptoRow : OpenClaim := { program := "ytdfllhmkgphcmaadoor", sum := "ec817f9ac0dc66ea45a539594700c928703042db8aa11cbc9ac70077a0e997e6", func := "cordwood/cordwoodlaw29.MachineLists", spec := "machineLists", inPlace := ["internal/bytealg.IndexByteString", "internal/bytealg.IndexString"], unfollowed := true, recurses := true, named := ["internal/bytealg.MaxLen", "unicode/utf8.first", "unicode/utf8.acceptRanges"], apart := false, laid := [("unicode/utf8.acceptRanges", laid_unicode_utf8_acceptRanges), ("unicode/utf8.first", laid_unicode_utf8_first)], narrowed := true }
def MachineListsUptoSaid : Prop := machineListsUptoRow.holds Tryd.pinned (OpenSpec.upto machineListsSpec)

/-- 'cordwoodlaw29.MachineFunctions', WHERE WHAT IT READS IS OF BULK AT MOST 1048576: true; the input reads as it did. -/
def machineFunctionsUptoRow : OpenClaim := { program := "ytdfllhmkgphcmaadoor", sum := "ec817f9ac0dc66ea45a539594700c928703042db8aa11cbc9ac70077a0e997e6", func := "cordwood/cordwoodlaw29.MachineFunctions", spec := "machineFunctions", inPlace := ["internal/bytealg.IndexByteString", "internal/bytealg.IndexString"], unfollowed := true, recurses := true, named := ["internal/bytealg.MaxLen", "unicode/utf8.first", "unicode/utf8.acceptRanges"], apart := false, laid := [("unicode/utf8.acceptRanges", laid_unicode_utf8_acceptRanges), ("unicode/utf8.first", laid_unicode_utf8_first)], narrowed := true }
def MachineFunctionsUptoSaid : Prop := machineFunctionsUptoRow.holds Tryd.pinned (OpenSpec.upto machineFunctionsSpec)

/-- 'cordwoodlaw29.MachinePieces', WHERE WHAT IT READS IS OF BULK AT MOST 1048576: true; the input reads as it did. -/
def machinePiecesUptoRow : OpenClaim := { program := "ytdfllhmkgphcmaadoor", sum := "ec817f9ac0dc66ea45a539594700c928703042db8aa11cbc9ac70077a0e997e6", func := "cordwood/cordwoodlaw29.MachinePieces", spec := "machinePieces", inPlace := ["internal/bytealg.IndexByteString", "internal/bytealg.IndexString"], unfollowed := true, recurses := true, named := ["internal/bytealg.MaxLen", "unicode/utf8.first", "unicode/utf8.acceptRanges"], apart := false, laid := [("unicode/utf8.acceptRanges", laid_unicode_utf8_acceptRanges), ("unicode/utf8.first", laid_unicode_utf8_first)], narrowed := true }
def MachinePiecesUptoSaid : Prop := machinePiecesUptoRow.holds Tryd.pinned (OpenSpec.upto machinePiecesSpec)

/-- 'cordwoodlaw29.MachineEnds', WHERE WHAT IT READS IS OF BULK AT MOST 1048576: true; the input reads as it did. -/
def machineEndsUptoRow : OpenClaim := { program := "ytdfllhmkgphcmaadoor", sum := "ec817f9ac0dc66ea45a539594700c928703042db8aa11cbc9ac70077a0e997e6", func := "cordwood/cordwoodlaw29.MachineEnds", spec := "machineEnds", inPlace := ["internal/bytealg.IndexByteString", "internal/bytealg.IndexString"], unfollowed := true, recurses := true, named := ["internal/bytealg.MaxLen", "unicode/utf8.first", "unicode/utf8.acceptRanges"], apart := false, laid := [("unicode/utf8.acceptRanges", laid_unicode_utf8_acceptRanges), ("unicode/utf8.first", laid_unicode_utf8_first)], narrowed := true }
def MachineEndsUptoSaid : Prop := machineEndsUptoRow.holds Tryd.pinned (OpenSpec.upto machineEndsSpec)

end Rows
end Go.Proofs.YtdfllhmkgphcmaaDoor
