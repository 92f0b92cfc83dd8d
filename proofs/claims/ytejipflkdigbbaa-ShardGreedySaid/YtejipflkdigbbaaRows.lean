/-
  No cell of these rows narrows 'for every input' (looked for: loops, veiled, ifaces, maps, wideKeys, modest, calm, conditions, laid).
  DERIVED. THE GIVEN ROWS OF THIS SEAT. 7 by the template 'for every input the law returns true; each argument reads behind the call as it read before'; 0 by the template 'total and deterministic' (their statements: YtejipflkdigbbaaTotals.lean).
  GIVEN WITH THE SEED: the statements are not yours to turn. If you find one false, say at which input.
  Laid BY PROGRAM, IN A SANDBOX (cutbox-rows.mjs): the forced cells as the released guide's own fill.sh prints them over the translation 00a7c90f14d46a2e… (all of the seat's roots in one cut). By AI agents, Wed Nov 11 2026. No macro, syntax, notation, axiom, sorry.
-/
import Derived.Test.YtejipflkdigbbaaChecked
import GoSem.Claim
import GoSem.ClaimJoined
import GoSem.ClaimMapViews
import Derived.JoinedTies
import Derived.KernelRfl
namespace Go.Proofs.Ytejipflkdigbbaa
/- THE CELL 'sum', in the pinned program and in every row, IS THE sha256 OF THE DUMP (.gsa) THAT YtejipflkdigbbaaProg.lean LOADS. Nothing in Lean hashes anything: it is a label: what it is worth is what the hold of that sum in a sandbox is worth. -/
noncomputable def Try.pinned : Pinned := { name := "ytejipflkdigbbaa", sum := "00a7c90f14d46a2eaae5fb89872c6e20e188500e341d744114811de5f7b2c52e", checked := Try.checked }
namespace Rows
def none {H : Type} : Left H := { results := [], args := [] }

/-- 'cordwoodlaw51.ShardCheck': WHATEVER THE INPUT: true; the input reads as it did. -/
def shardCheckSpec : ChangeSpec := { name := "shardCheck", fn := fun _ => fun
  | [d1, d2] => { results := [.lit (.bool true)], args := [d1, d2] }
  | _ => none }
def shardCheckRow : OpenClaim := { program := "ytejipflkdigbbaa", sum := "00a7c90f14d46a2eaae5fb89872c6e20e188500e341d744114811de5f7b2c52e", func := "cordwood/cordwoodlaw51.ShardCheck", spec := "shardCheck", unfollowed := true, recurses := true, apart := false }
def ShardCheckSaid : Prop := shardCheckRow.holds Try.pinned (OpenSpec.ofChange shardCheckSpec)

/-- ITS FALSE NEIGHBOUR: 'it returns false'. Refute it at one input. -/
def shardCheckWrong : ChangeSpec := { name := "shardCheck", fn := fun _ => fun
  | [d1, d2] => { results := [.lit (.bool false)], args := [d1, d2] }
  | _ => none }
def ShardCheckWrongFalsely : Prop := shardCheckRow.holds Try.pinned (OpenSpec.ofChange shardCheckWrong)

/-- 'cordwoodlaw51.ShardGreedy': WHATEVER THE INPUT: true; the input reads as it did. -/
def shardGreedySpec : ChangeSpec := { name := "shardGreedy", fn := fun _ => fun
  | [d1, d2] => { results := [.lit (.bool true)], args := [d1, d2] }
  | _ => none }
def shardGreedyRow : OpenClaim := { program := "ytejipflkdigbbaa", sum := "00a7c90f14d46a2eaae5fb89872c6e20e188500e341d744114811de5f7b2c52e", func := "cordwood/cordwoodlaw51.ShardGreedy", spec := "shardGreedy", unfollowed := true, recurses := true, apart := false }
def ShardGreedySaid : Prop := shardGreedyRow.holds Try.pinned (OpenSpec.ofChange shardGreedySpec)

/-- ITS FALSE NEIGHBOUR: 'it returns false'. Refute it at one input. -/
def shardGreedyWrong : ChangeSpec := { name := "shardGreedy", fn := fun _ => fun
  | [d1, d2] => { results := [.lit (.bool false)], args := [d1, d2] }
  | _ => none }
def ShardGreedyWrongFalsely : Prop := shardGreedyRow.holds Try.pinned (OpenSpec.ofChange shardGreedyWrong)

/-- 'cordwoodlaw51.ShardBest': WHATEVER THE INPUT: true; the input reads as it did. -/
def shardBestSpec : ChangeSpec := { name := "shardBest", fn := fun _ => fun
  | [d1, d2] => { results := [.lit (.bool true)], args := [d1, d2] }
  | _ => none }
def shardBestRow : OpenClaim := { program := "ytejipflkdigbbaa", sum := "00a7c90f14d46a2eaae5fb89872c6e20e188500e341d744114811de5f7b2c52e", func := "cordwood/cordwoodlaw51.ShardBest", spec := "shardBest", unfollowed := true, recurses := true, apart := false }
def ShardBestSaid : Prop := shardBestRow.holds Try.pinned (OpenSpec.ofChange shardBestSpec)

/-- ITS FALSE NEIGHBOUR: 'it returns false'. Refute it at one input. -/
def shardBestWrong : ChangeSpec := { name := "shardBest", fn := fun _ => fun
  | [d1, d2] => { results := [.lit (.bool false)], args := [d1, d2] }
  | _ => none }
def ShardBestWrongFalsely : Prop := shardBestRow.holds Try.pinned (OpenSpec.ofChange shardBestWrong)

/-- 'cordwoodlaw51.ShardDivides': WHATEVER THE INPUT: true; the input reads as it did. -/
def shardDividesSpec : ChangeSpec := { name := "shardDivides", fn := fun _ => fun
  | [d1, d2] => { results := [.lit (.bool true)], args := [d1, d2] }
  | _ => none }
def shardDividesRow : OpenClaim := { program := "ytejipflkdigbbaa", sum := "00a7c90f14d46a2eaae5fb89872c6e20e188500e341d744114811de5f7b2c52e", func := "cordwood/cordwoodlaw51.ShardDivides", spec := "shardDivides", unfollowed := true, recurses := true, apart := false }
def ShardDividesSaid : Prop := shardDividesRow.holds Try.pinned (OpenSpec.ofChange shardDividesSpec)

/-- ITS FALSE NEIGHBOUR: 'it returns false'. Refute it at one input. -/
def shardDividesWrong : ChangeSpec := { name := "shardDivides", fn := fun _ => fun
  | [d1, d2] => { results := [.lit (.bool false)], args := [d1, d2] }
  | _ => none }
def ShardDividesWrongFalsely : Prop := shardDividesRow.holds Try.pinned (OpenSpec.ofChange shardDividesWrong)

/-- 'cordwoodlaw51.ShardBounds': WHATEVER THE INPUT: true; the input reads as it did. -/
def shardBoundsSpec : ChangeSpec := { name := "shardBounds", fn := fun _ => fun
  | [d1, d2] => { results := [.lit (.bool true)], args := [d1, d2] }
  | _ => none }
def shardBoundsRow : OpenClaim := { program := "ytejipflkdigbbaa", sum := "00a7c90f14d46a2eaae5fb89872c6e20e188500e341d744114811de5f7b2c52e", func := "cordwood/cordwoodlaw51.ShardBounds", spec := "shardBounds", unfollowed := true, recurses := true, apart := false }
def ShardBoundsSaid : Prop := shardBoundsRow.holds Try.pinned (OpenSpec.ofChange shardBoundsSpec)

/-- ITS FALSE NEIGHBOUR: 'it returns false'. Refute it at one input. -/
def shardBoundsWrong : ChangeSpec := { name := "shardBounds", fn := fun _ => fun
  | [d1, d2] => { results := [.lit (.bool false)], args := [d1, d2] }
  | _ => none }
def ShardBoundsWrongFalsely : Prop := shardBoundsRow.holds Try.pinned (OpenSpec.ofChange shardBoundsWrong)

/-- 'cordwoodlaw51.ShardQuality': WHATEVER THE INPUT: true; the input reads as it did. -/
def shardQualitySpec : ChangeSpec := { name := "shardQuality", fn := fun _ => fun
  | [d1, d2] => { results := [.lit (.bool true)], args := [d1, d2] }
  | _ => none }
def shardQualityRow : OpenClaim := { program := "ytejipflkdigbbaa", sum := "00a7c90f14d46a2eaae5fb89872c6e20e188500e341d744114811de5f7b2c52e", func := "cordwood/cordwoodlaw51.ShardQuality", spec := "shardQuality", unfollowed := true, recurses := true, apart := false }
def ShardQualitySaid : Prop := shardQualityRow.holds Try.pinned (OpenSpec.ofChange shardQualitySpec)

/-- ITS FALSE NEIGHBOUR: 'it returns false'. Refute it at one input. -/
def shardQualityWrong : ChangeSpec := { name := "shardQuality", fn := fun _ => fun
  | [d1, d2] => { results := [.lit (.bool false)], args := [d1, d2] }
  | _ => none }
def ShardQualityWrongFalsely : Prop := shardQualityRow.holds Try.pinned (OpenSpec.ofChange shardQualityWrong)

/-- 'cordwoodlaw51.ShardOrder': WHATEVER THE INPUT: true; the input reads as it did. -/
def shardOrderSpec : ChangeSpec := { name := "shardOrder", fn := fun _ => fun
  | [d1, d2, d3, d4] => { results := [.lit (.bool true)], args := [d1, d2, d3, d4] }
  | _ => none }
def shardOrderRow : OpenClaim := { program := "ytejipflkdigbbaa", sum := "00a7c90f14d46a2eaae5fb89872c6e20e188500e341d744114811de5f7b2c52e", func := "cordwood/cordwoodlaw51.ShardOrder", spec := "shardOrder", unfollowed := true, recurses := true, apart := false }
def ShardOrderSaid : Prop := shardOrderRow.holds Try.pinned (OpenSpec.ofChange shardOrderSpec)

/-- ITS FALSE NEIGHBOUR: 'it returns false'. Refute it at one input. -/
def shardOrderWrong : ChangeSpec := { name := "shardOrder", fn := fun _ => fun
  | [d1, d2, d3, d4] => { results := [.lit (.bool false)], args := [d1, d2, d3, d4] }
  | _ => none }
def ShardOrderWrongFalsely : Prop := shardOrderRow.holds Try.pinned (OpenSpec.ofChange shardOrderWrong)

/- THE SECOND FORM. 'bulk': how many values and letters a reading holds, each counted each time it is reached (what is shared counts as often as it is met; a slice's spare places count too). A statement '..UptoSaid' is the law's where the arguments, and the package variables that the reading takes, are together of bulk at most 1048576: NARROWER than '..Said'. Prove '..Said' where nothing that the law and all that it calls make is longer than what came in: it says more and counts as full. Else prove '..UptoSaid'. A law counts once. -/
mutual
def uptoBulk {H : Type} : DataW H → Nat
  | .lit (.string bytes) => bytes.length + 1
  | .lit _ => 1
  | .nil => 1
  | .ptr d => uptoBulk d + 1
  | .slice elems spare => uptoBulkAll elems + uptoBulkAll spare + 1
  | .agg parts => uptoBulkAll parts + 1
  | .iface _ d => uptoBulk d + 1
  | .map entries => uptoBulkEntries entries + 1
  | .held _ => 1
def uptoBulkAll {H : Type} : List (DataW H) → Nat
  | [] => 0
  | d :: r => uptoBulk d + uptoBulkAll r
def uptoBulkEntries {H : Type} : List (Lit × DataW H) → Nat
  | [] => 0
  | x :: r => uptoBulkEntry x + uptoBulkEntries r
def uptoBulkEntry {H : Type} : Lit × DataW H → Nat
  | (.string bytes, d) => bytes.length + uptoBulk d + 1
  | (_, d) => uptoBulk d + 1
 end
def uptoSmall : (H : Type) → List (DataW H) → Bool := fun _ ds => decide (uptoBulkAll ds ≤ 1048576)
def OpenSpec.upto (s : _root_.Go.ChangeSpec) : _root_.Go.OpenSpec := { _root_.Go.OpenSpec.ofChange s with cond := some uptoSmall }

/-- 'cordwoodlaw51.ShardCheck', WHERE WHAT IT READS IS OF BULK AT MOST 1048576: true; the input reads as it did. -/
def shardCheckUptoRow : OpenClaim := { program := "ytejipflkdigbbaa", sum := "00a7c90f14d46a2eaae5fb89872c6e20e188500e341d744114811de5f7b2c52e", func := "cordwood/cordwoodlaw51.ShardCheck", spec := "shardCheck", unfollowed := true, recurses := true, apart := false, narrowed := true }
def ShardCheckUptoSaid : Prop := shardCheckUptoRow.holds Try.pinned (OpenSpec.upto shardCheckSpec)

/-- 'cordwoodlaw51.ShardGreedy', WHERE WHAT IT READS IS OF BULK AT MOST 1048576: true; the input reads as it did. -/
def shardGreedyUptoRow : OpenClaim := { program := "ytejipflkdigbbaa", sum := "00a7c90f14d46a2eaae5fb89872c6e20e188500e341d744114811de5f7b2c52e", func := "cordwood/cordwoodlaw51.ShardGreedy", spec := "shardGreedy", unfollowed := true, recurses := true, apart := false, narrowed := true }
def ShardGreedyUptoSaid : Prop := shardGreedyUptoRow.holds Try.pinned (OpenSpec.upto shardGreedySpec)

/-- 'cordwoodlaw51.ShardBest', WHERE WHAT IT READS IS OF BULK AT MOST 1048576: true; the input reads as it did. -/
def shardBestUptoRow : OpenClaim := { program := "ytejipflkdigbbaa", sum := "00a7c90f14d46a2eaae5fb89872c6e20e188500e341d744114811de5f7b2c52e", func := "cordwood/cordwoodlaw51.ShardBest", spec := "shardBest", unfollowed := true, recurses := true, apart := false, narrowed := true }
def ShardBestUptoSaid : Prop := shardBestUptoRow.holds Try.pinned (OpenSpec.upto shardBestSpec)

/-- 'cordwoodlaw51.ShardDivides', WHERE WHAT IT READS IS OF BULK AT MOST 1048576: true; the input reads as it did. -/
def shardDividesUptoRow : OpenClaim := { program := "ytejipflkdigbbaa", sum := "00a7c90f14d46a2eaae5fb89872c6e20e188500e341d744114811de5f7b2c52e", func := "cordwood/cordwoodlaw51.ShardDivides", spec := "shardDivides", unfollowed := true, recurses := true, apart := false, narrowed := true }
def ShardDividesUptoSaid : Prop := shardDividesUptoRow.holds Try.pinned (OpenSpec.upto shardDividesSpec)

/-- 'cordwoodlaw51.ShardBounds', WHERE WHAT IT READS IS OF BULK AT MOST 1048576: true; the input reads as it did. -/
def shardBoundsUptoRow : OpenClaim := { program := "ytejipflkdigbbaa", sum := "00a7c90f14d46a2eaae5fb89872c6e20e188500e341d744114811de5f7b2c52e", func := "cordwood/cordwoodlaw51.ShardBounds", spec := "shardBounds", unfollowed := true, recurses := true, apart := false, narrowed := true }
def ShardBoundsUptoSaid : Prop := shardBoundsUptoRow.holds Try.pinned (OpenSpec.upto shardBoundsSpec)

/-- 'cordwoodlaw51.ShardQuality', WHERE WHAT IT READS IS OF BULK AT MOST 1048576: true; the input reads as it did. -/
def shardQualityUptoRow : OpenClaim := { program := "ytejipflkdigbbaa", sum := "00a7c90f14d46a2eaae5fb89872c6e20e188500e341d744114811de5f7b2c52e", func := "cordwood/cordwoodlaw51.ShardQuality", spec := "shardQuality", unfollowed := true, recurses := true, apart := false, narrowed := true }
def ShardQualityUptoSaid : Prop := shardQualityUptoRow.holds Try.pinned (OpenSpec.upto shardQualitySpec)

/-- 'cordwoodlaw51.ShardOrder', WHERE WHAT IT READS IS OF BULK AT MOST 1048576: true; the input reads as it did. -/
def shardOrderUptoRow : OpenClaim := { program := "ytejipflkdigbbaa", sum := "00a7c90f14d46a2eaae5fb89872c6e20e188500e341d744114811de5f7b2c52e", func := "cordwood/cordwoodlaw51.ShardOrder", spec := "shardOrder", unfollowed := true, recurses := true, apart := false, narrowed := true }
def ShardOrderUptoSaid : Prop := shardOrderUptoRow.holds Try.pinned (OpenSpec.upto shardOrderSpec)

end Rows
end Go.Proofs.Ytejipflkdigbbaa
