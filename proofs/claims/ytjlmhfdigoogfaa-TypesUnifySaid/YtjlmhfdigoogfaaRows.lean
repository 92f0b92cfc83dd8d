/-
  NARROWER THAN 'FOR EVERY INPUT', by the rows' own cells (each row's printed sentence says how): TypesUnify: loops · TypesCheck: loops · TypesApply: loops · TypesGeneral: loops · TypesSchemes: loops · TypesSolves: loops · TypesInstances: loops · TypesText: loops · TypesOpened: loops.
  DERIVED. THE GIVEN ROWS OF THIS SEAT. 9 by the template 'for every input the law returns true; each argument reads behind the call as it read before'; 0 by the template 'total and deterministic' (their statements: YtjlmhfdigoogfaaTotals.lean).
  GIVEN WITH THE SEED: the statements are not yours to turn. If you find one false, say at which input.
  Laid BY PROGRAM, IN A SANDBOX (cutbox-rows.mjs): the forced cells as the released guide's own fill.sh prints them over the translation 9916cdc883e2c2d9… (all of the seat's roots in one cut). By AI agents, Wed Nov 11 2026. No macro, syntax, notation, axiom, sorry.
-/
import Derived.Test.YtjlmhfdigoogfaaChecked
import GoSem.Claim
import GoSem.ClaimJoined
import GoSem.ClaimMapViews
import Derived.JoinedTies
import Derived.KernelRfl
namespace Go.Proofs.Ytjlmhfdigoogfaa
/- THE CELL 'sum', in the pinned program and in every row, IS THE sha256 OF THE DUMP (.gsa) THAT YtjlmhfdigoogfaaProg.lean LOADS. Nothing in Lean hashes anything: it is a label: what it is worth is what the hold of that sum in a sandbox is worth. -/
noncomputable def Try.pinned : Pinned := { name := "ytjlmhfdigoogfaa", sum := "9916cdc883e2c2d91bec28ebd3346def628dd507f3d3d3a9e2674aee828a08a5", checked := Try.checked }
namespace Rows
def none {H : Type} : Left H := { results := [], args := [] }

/-- 'cordwoodlaw23.TypesUnify': WHATEVER THE INPUT: true; the input reads as it did. -/
def typesUnifySpec : ChangeSpec := { name := "typesUnify", fn := fun _ => fun
  | [d1, d2] => { results := [.lit (.bool true)], args := [d1, d2] }
  | _ => none }
def typesUnifyRow : OpenClaim := { program := "ytjlmhfdigoogfaa", sum := "9916cdc883e2c2d91bec28ebd3346def628dd507f3d3d3a9e2674aee828a08a5", func := "cordwood/cordwoodlaw23.TypesUnify", spec := "typesUnify", unfollowed := true, recurses := true, loops := true, apart := false }
def TypesUnifySaid : Prop := typesUnifyRow.holds Try.pinned (OpenSpec.ofChange typesUnifySpec)

/-- ITS FALSE NEIGHBOUR: 'it returns false'. Refute it at one input. -/
def typesUnifyWrong : ChangeSpec := { name := "typesUnify", fn := fun _ => fun
  | [d1, d2] => { results := [.lit (.bool false)], args := [d1, d2] }
  | _ => none }
def TypesUnifyWrongFalsely : Prop := typesUnifyRow.holds Try.pinned (OpenSpec.ofChange typesUnifyWrong)

/-- 'cordwoodlaw23.TypesCheck': WHATEVER THE INPUT: true; the input reads as it did. -/
def typesCheckSpec : ChangeSpec := { name := "typesCheck", fn := fun _ => fun
  | [d] => { results := [.lit (.bool true)], args := [d] }
  | _ => none }
def typesCheckRow : OpenClaim := { program := "ytjlmhfdigoogfaa", sum := "9916cdc883e2c2d91bec28ebd3346def628dd507f3d3d3a9e2674aee828a08a5", func := "cordwood/cordwoodlaw23.TypesCheck", spec := "typesCheck", unfollowed := true, recurses := true, loops := true, apart := false }
def TypesCheckSaid : Prop := typesCheckRow.holds Try.pinned (OpenSpec.ofChange typesCheckSpec)

/-- ITS FALSE NEIGHBOUR: 'it returns false'. Refute it at one input. -/
def typesCheckWrong : ChangeSpec := { name := "typesCheck", fn := fun _ => fun
  | [d] => { results := [.lit (.bool false)], args := [d] }
  | _ => none }
def TypesCheckWrongFalsely : Prop := typesCheckRow.holds Try.pinned (OpenSpec.ofChange typesCheckWrong)

/-- 'cordwoodlaw23.TypesApply': WHATEVER THE INPUT: true; the input reads as it did. -/
def typesApplySpec : ChangeSpec := { name := "typesApply", fn := fun _ => fun
  | [d1, d2] => { results := [.lit (.bool true)], args := [d1, d2] }
  | _ => none }
def typesApplyRow : OpenClaim := { program := "ytjlmhfdigoogfaa", sum := "9916cdc883e2c2d91bec28ebd3346def628dd507f3d3d3a9e2674aee828a08a5", func := "cordwood/cordwoodlaw23.TypesApply", spec := "typesApply", unfollowed := true, recurses := true, loops := true, apart := false }
def TypesApplySaid : Prop := typesApplyRow.holds Try.pinned (OpenSpec.ofChange typesApplySpec)

/-- ITS FALSE NEIGHBOUR: 'it returns false'. Refute it at one input. -/
def typesApplyWrong : ChangeSpec := { name := "typesApply", fn := fun _ => fun
  | [d1, d2] => { results := [.lit (.bool false)], args := [d1, d2] }
  | _ => none }
def TypesApplyWrongFalsely : Prop := typesApplyRow.holds Try.pinned (OpenSpec.ofChange typesApplyWrong)

/-- 'cordwoodlaw23.TypesGeneral': WHATEVER THE INPUT: true; the input reads as it did. -/
def typesGeneralSpec : ChangeSpec := { name := "typesGeneral", fn := fun _ => fun
  | [d1, d2, d3] => { results := [.lit (.bool true)], args := [d1, d2, d3] }
  | _ => none }
def typesGeneralRow : OpenClaim := { program := "ytjlmhfdigoogfaa", sum := "9916cdc883e2c2d91bec28ebd3346def628dd507f3d3d3a9e2674aee828a08a5", func := "cordwood/cordwoodlaw23.TypesGeneral", spec := "typesGeneral", unfollowed := true, recurses := true, loops := true, apart := false }
def TypesGeneralSaid : Prop := typesGeneralRow.holds Try.pinned (OpenSpec.ofChange typesGeneralSpec)

/-- ITS FALSE NEIGHBOUR: 'it returns false'. Refute it at one input. -/
def typesGeneralWrong : ChangeSpec := { name := "typesGeneral", fn := fun _ => fun
  | [d1, d2, d3] => { results := [.lit (.bool false)], args := [d1, d2, d3] }
  | _ => none }
def TypesGeneralWrongFalsely : Prop := typesGeneralRow.holds Try.pinned (OpenSpec.ofChange typesGeneralWrong)

/-- 'cordwoodlaw23.TypesSchemes': WHATEVER THE INPUT: true; the input reads as it did. -/
def typesSchemesSpec : ChangeSpec := { name := "typesSchemes", fn := fun _ => fun
  | [d1, d2, d3, d4] => { results := [.lit (.bool true)], args := [d1, d2, d3, d4] }
  | _ => none }
def typesSchemesRow : OpenClaim := { program := "ytjlmhfdigoogfaa", sum := "9916cdc883e2c2d91bec28ebd3346def628dd507f3d3d3a9e2674aee828a08a5", func := "cordwood/cordwoodlaw23.TypesSchemes", spec := "typesSchemes", unfollowed := true, recurses := true, loops := true, apart := false }
def TypesSchemesSaid : Prop := typesSchemesRow.holds Try.pinned (OpenSpec.ofChange typesSchemesSpec)

/-- ITS FALSE NEIGHBOUR: 'it returns false'. Refute it at one input. -/
def typesSchemesWrong : ChangeSpec := { name := "typesSchemes", fn := fun _ => fun
  | [d1, d2, d3, d4] => { results := [.lit (.bool false)], args := [d1, d2, d3, d4] }
  | _ => none }
def TypesSchemesWrongFalsely : Prop := typesSchemesRow.holds Try.pinned (OpenSpec.ofChange typesSchemesWrong)

/-- 'cordwoodlaw23.TypesSolves': WHATEVER THE INPUT: true; the input reads as it did. -/
def typesSolvesSpec : ChangeSpec := { name := "typesSolves", fn := fun _ => fun
  | [d1, d2] => { results := [.lit (.bool true)], args := [d1, d2] }
  | _ => none }
def typesSolvesRow : OpenClaim := { program := "ytjlmhfdigoogfaa", sum := "9916cdc883e2c2d91bec28ebd3346def628dd507f3d3d3a9e2674aee828a08a5", func := "cordwood/cordwoodlaw23.TypesSolves", spec := "typesSolves", unfollowed := true, recurses := true, loops := true, apart := false }
def TypesSolvesSaid : Prop := typesSolvesRow.holds Try.pinned (OpenSpec.ofChange typesSolvesSpec)

/-- ITS FALSE NEIGHBOUR: 'it returns false'. Refute it at one input. -/
def typesSolvesWrong : ChangeSpec := { name := "typesSolves", fn := fun _ => fun
  | [d1, d2] => { results := [.lit (.bool false)], args := [d1, d2] }
  | _ => none }
def TypesSolvesWrongFalsely : Prop := typesSolvesRow.holds Try.pinned (OpenSpec.ofChange typesSolvesWrong)

/-- 'cordwoodlaw23.TypesInstances': WHATEVER THE INPUT: true; the input reads as it did. -/
def typesInstancesSpec : ChangeSpec := { name := "typesInstances", fn := fun _ => fun
  | [d1, d2, d3] => { results := [.lit (.bool true)], args := [d1, d2, d3] }
  | _ => none }
def typesInstancesRow : OpenClaim := { program := "ytjlmhfdigoogfaa", sum := "9916cdc883e2c2d91bec28ebd3346def628dd507f3d3d3a9e2674aee828a08a5", func := "cordwood/cordwoodlaw23.TypesInstances", spec := "typesInstances", unfollowed := true, recurses := true, loops := true, apart := false }
def TypesInstancesSaid : Prop := typesInstancesRow.holds Try.pinned (OpenSpec.ofChange typesInstancesSpec)

/-- ITS FALSE NEIGHBOUR: 'it returns false'. Refute it at one input. -/
def typesInstancesWrong : ChangeSpec := { name := "typesInstances", fn := fun _ => fun
  | [d1, d2, d3] => { results := [.lit (.bool false)], args := [d1, d2, d3] }
  | _ => none }
def TypesInstancesWrongFalsely : Prop := typesInstancesRow.holds Try.pinned (OpenSpec.ofChange typesInstancesWrong)

/-- 'cordwoodlaw23.TypesText': WHATEVER THE INPUT: true; the input reads as it did. -/
def typesTextSpec : ChangeSpec := { name := "typesText", fn := fun _ => fun
  | [d1, d2, d3] => { results := [.lit (.bool true)], args := [d1, d2, d3] }
  | _ => none }
def typesTextRow : OpenClaim := { program := "ytjlmhfdigoogfaa", sum := "9916cdc883e2c2d91bec28ebd3346def628dd507f3d3d3a9e2674aee828a08a5", func := "cordwood/cordwoodlaw23.TypesText", spec := "typesText", unfollowed := true, recurses := true, loops := true, apart := false }
def TypesTextSaid : Prop := typesTextRow.holds Try.pinned (OpenSpec.ofChange typesTextSpec)

/-- ITS FALSE NEIGHBOUR: 'it returns false'. Refute it at one input. -/
def typesTextWrong : ChangeSpec := { name := "typesText", fn := fun _ => fun
  | [d1, d2, d3] => { results := [.lit (.bool false)], args := [d1, d2, d3] }
  | _ => none }
def TypesTextWrongFalsely : Prop := typesTextRow.holds Try.pinned (OpenSpec.ofChange typesTextWrong)

/-- 'cordwoodlaw23.TypesOpened': WHATEVER THE INPUT: true; the input reads as it did. -/
def typesOpenedSpec : ChangeSpec := { name := "typesOpened", fn := fun _ => fun
  | [d1, d2, d3] => { results := [.lit (.bool true)], args := [d1, d2, d3] }
  | _ => none }
def typesOpenedRow : OpenClaim := { program := "ytjlmhfdigoogfaa", sum := "9916cdc883e2c2d91bec28ebd3346def628dd507f3d3d3a9e2674aee828a08a5", func := "cordwood/cordwoodlaw23.TypesOpened", spec := "typesOpened", unfollowed := true, recurses := true, loops := true, apart := false }
def TypesOpenedSaid : Prop := typesOpenedRow.holds Try.pinned (OpenSpec.ofChange typesOpenedSpec)

/-- ITS FALSE NEIGHBOUR: 'it returns false'. Refute it at one input. -/
def typesOpenedWrong : ChangeSpec := { name := "typesOpened", fn := fun _ => fun
  | [d1, d2, d3] => { results := [.lit (.bool false)], args := [d1, d2, d3] }
  | _ => none }
def TypesOpenedWrongFalsely : Prop := typesOpenedRow.holds Try.pinned (OpenSpec.ofChange typesOpenedWrong)

/- THE SECOND FORM. 'bulk': how many values and letters a reading holds, each counted each time it is reached (what is shared counts as often as it is met; a slice's spare places count too). A statement '..UptoSaid' is the law's where the arguments, and the package variables that the reading takes, are together of bulk at most 1048576: NARROWER than '..Said'. Prove '..Said' where nothing that the law and all that it calls make is longer than what came in: it says more and counts as full. Else prove '..UptoSaid'. A law counts once. -/
mutual
def uptoBulk {H : Type} : DataW H → Nat
  | .lit (.string bytes) => bytes.length + 1
  | .lit _ => 1
  | .nil => 1
  | .ptr d => uptoBulk d + 1
  | .slice elems spare => uptoBulkAll elems + uptoBulkAll spare + 1
  | .agg parts => uptoBulkAll parts + 1
  | .iface _ d => uptoBulk d + 1
  | .map entries => uptoBulkEntries entries + 1
  | .held _ => 1
def uptoBulkAll {H : Type} : List (DataW H) → Nat
  | [] => 0
  | d :: r => uptoBulk d + uptoBulkAll r
def uptoBulkEntries {H : Type} : List (Lit × DataW H) → Nat
  | [] => 0
  | x :: r => uptoBulkEntry x + uptoBulkEntries r
def uptoBulkEntry {H : Type} : Lit × DataW H → Nat
  | (.string bytes, d) => bytes.length + uptoBulk d + 1
  | (_, d) => uptoBulk d + 1
 end
def uptoSmall : (H : Type) → List (DataW H) → Bool := fun _ ds => decide (uptoBulkAll ds ≤ 1048576)
def OpenSpec.upto (s : _root_.Go.ChangeSpec) : _root_.Go.OpenSpec := { _root_.Go.OpenSpec.ofChange s with cond := some uptoSmall }

/-- 'cordwoodlaw23.TypesUnify', WHERE WHAT IT READS IS OF BULK AT MOST 1048576: true; the input reads as it did. -/
def typesUnifyUptoRow : OpenClaim := { program := "ytjlmhfdigoogfaa", sum := "9916cdc883e2c2d91bec28ebd3346def628dd507f3d3d3a9e2674aee828a08a5", func := "cordwood/cordwoodlaw23.TypesUnify", spec := "typesUnify", unfollowed := true, recurses := true, loops := true, apart := false, narrowed := true }
def TypesUnifyUptoSaid : Prop := typesUnifyUptoRow.holds Try.pinned (OpenSpec.upto typesUnifySpec)

/-- 'cordwoodlaw23.TypesCheck', WHERE WHAT IT READS IS OF BULK AT MOST 1048576: true; the input reads as it did. -/
def typesCheckUptoRow : OpenClaim := { program := "ytjlmhfdigoogfaa", sum := "9916cdc883e2c2d91bec28ebd3346def628dd507f3d3d3a9e2674aee828a08a5", func := "cordwood/cordwoodlaw23.TypesCheck", spec := "typesCheck", unfollowed := true, recurses := true, loops := true, apart := false, narrowed := true }
def TypesCheckUptoSaid : Prop := typesCheckUptoRow.holds Try.pinned (OpenSpec.upto typesCheckSpec)

/-- 'cordwoodlaw23.TypesApply', WHERE WHAT IT READS IS OF BULK AT MOST 1048576: true; the input reads as it did. -/
def typesApplyUptoRow : OpenClaim := { program := "ytjlmhfdigoogfaa", sum := "9916cdc883e2c2d91bec28ebd3346def628dd507f3d3d3a9e2674aee828a08a5", func := "cordwood/cordwoodlaw23.TypesApply", spec := "typesApply", unfollowed := true, recurses := true, loops := true, apart := false, narrowed := true }
def TypesApplyUptoSaid : Prop := typesApplyUptoRow.holds Try.pinned (OpenSpec.upto typesApplySpec)

/-- 'cordwoodlaw23.TypesGeneral', WHERE WHAT IT READS IS OF BULK AT MOST 1048576: true; the input reads as it did. -/
def typesGeneralUptoRow : OpenClaim := { program := "ytjlmhfdigoogfaa", sum := "9916cdc883e2c2d91bec28ebd3346def628dd507f3d3d3a9e2674aee828a08a5", func := "cordwood/cordwoodlaw23.TypesGeneral", spec := "typesGeneral", unfollowed := true, recurses := true, loops := true, apart := false, narrowed := true }
def TypesGeneralUptoSaid : Prop := typesGeneralUptoRow.holds Try.pinned (OpenSpec.upto typesGeneralSpec)

/-- 'cordwoodlaw23.TypesSchemes', WHERE WHAT IT READS IS OF BULK AT MOST 1048576: true; the input reads as it did. -/
def typesSchemesUptoRow : OpenClaim := { program := "ytjlmhfdigoogfaa", sum := "9916cdc883e2c2d91bec28ebd3346def628dd507f3d3d3a9e2674aee828a08a5", func := "cordwood/cordwoodlaw23.TypesSchemes", spec := "typesSchemes", unfollowed := true, recurses := true, loops := true, apart := false, narrowed := true }
def TypesSchemesUptoSaid : Prop := typesSchemesUptoRow.holds Try.pinned (OpenSpec.upto typesSchemesSpec)

/-- 'cordwoodlaw23.TypesSolves', WHERE WHAT IT READS IS OF BULK AT MOST 1048576: true; the input reads as it did. -/
def typesSolvesUptoRow : OpenClaim := { program := "ytjlmhfdigoogfaa", sum := "9916cdc883e2c2d91bec28ebd3346def628dd507f3d3d3a9e2674aee828a08a5", func := "cordwood/cordwoodlaw23.TypesSolves", spec := "typesSolves", unfollowed := true, recurses := true, loops := true, apart := false, narrowed := true }
def TypesSolvesUptoSaid : Prop := typesSolvesUptoRow.holds Try.pinned (OpenSpec.upto typesSolvesSpec)

/-- 'cordwoodlaw23.TypesInstances', WHERE WHAT IT READS IS OF BULK AT MOST 1048576: true; the input reads as it did. -/
def typesInstancesUptoRow : OpenClaim := { program := "ytjlmhfdigoogfaa", sum := "9916cdc883e2c2d91bec28ebd3346def628dd507f3d3d3a9e2674aee828a08a5", func := "cordwood/cordwoodlaw23.TypesInstances", spec := "typesInstances", unfollowed := true, recurses := true, loops := true, apart := false, narrowed := true }
def TypesInstancesUptoSaid : Prop := typesInstancesUptoRow.holds Try.pinned (OpenSpec.upto typesInstancesSpec)

/-- 'cordwoodlaw23.TypesText', WHERE WHAT IT READS IS OF BULK AT MOST 1048576: true; the input reads as it did. -/
def typesTextUptoRow : OpenClaim := { program := "ytjlmhfdigoogfaa", sum := "9916cdc883e2c2d91bec28ebd3346def628dd507f3d3d3a9e2674aee828a08a5", func := "cordwood/cordwoodlaw23.TypesText", spec := "typesText", unfollowed := true, recurses := true, loops := true, apart := false, narrowed := true }
def TypesTextUptoSaid : Prop := typesTextUptoRow.holds Try.pinned (OpenSpec.upto typesTextSpec)

/-- 'cordwoodlaw23.TypesOpened', WHERE WHAT IT READS IS OF BULK AT MOST 1048576: true; the input reads as it did. -/
def typesOpenedUptoRow : OpenClaim := { program := "ytjlmhfdigoogfaa", sum := "9916cdc883e2c2d91bec28ebd3346def628dd507f3d3d3a9e2674aee828a08a5", func := "cordwood/cordwoodlaw23.TypesOpened", spec := "typesOpened", unfollowed := true, recurses := true, loops := true, apart := false, narrowed := true }
def TypesOpenedUptoSaid : Prop := typesOpenedUptoRow.holds Try.pinned (OpenSpec.upto typesOpenedSpec)

end Rows
end Go.Proofs.Ytjlmhfdigoogfaa
