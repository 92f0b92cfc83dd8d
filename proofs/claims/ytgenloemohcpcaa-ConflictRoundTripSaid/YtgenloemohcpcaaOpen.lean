/- Arguments that are sums of texts, opened. -/
import Derived.Test.YtgenloemohcpcaaRows
import Derived.Test.YtgenloemohcpcaaGr0
import Derived.ProofKit
import Derived.OpenShut
import Derived.ShutString
import Derived.SliceStrings
import Derived.Lib.SmallJoins
namespace Go.Proofs.Ytgenloemohcpcaa
open Go.ChangeShapes Go.WideShapes Go.ChangeAt Go.RowKit Go.Joins

theorem own : ownKnob Try.prog.godebug = none := by kernel_rfl
theorem laidOut : laidOutB Try.prog = true := by kernel_rfl
theorem cells9 : Try.prog.cellsOf 9 = 1 := by kernel_rfl
theorem cells24 : Try.prog.cellsOf 24 = 2 := by kernel_rfl

section
variable {H : Type} {enc : TypeId × Value → H} {W : World}

/-- A slice of texts that came in. -/
theorem open_txts {fuel : Nat} {v : Value} {x : DataW H × List MemPlace} (h : DataW.trod enc Try.prog W 0 (fun _ => true) true fuel 22 [v] = some x) :
    ∃ (A : Option Addr) (c : Nat) (L : List T), v = .slice A L.length c ∧ L.length ≤ c ∧ L.length ≤ 9223372036854775807 ∧ RD W A L := by
  rcases open_strings Try.underlying22 Try.underlying9 cells9 h with ⟨hcs, _⟩ | ⟨a, len, cap, ss, hcs, _, hl, hm, hz, _, hcell, _⟩
  · have e : v = .slice none 0 0 := by simpa using hcs
    exact ⟨none, 0, [], e, by simp, by simp, .inl rfl⟩
  · have e : v = .slice (some a) len cap := by simpa using hcs
    have hz' : ss.length = cap := by simpa using hz
    have hm' : cap ≤ 9223372036854775807 := by unfold maxLen at hm; omega
    have hlen : ((ss.take len).map fun s => s.data.toList).length = len := by simp; omega
    refine ⟨some a, cap, (ss.take len).map fun s => s.data.toList, by rw [hlen]; exact e, by rw [hlen]; exact hl, by rw [hlen]; omega, ?_⟩
    rcases Nat.eq_zero_or_pos len with h0 | h0
    · left
      subst h0
      simp
    · refine .inr ⟨a, rfl, ?_, fun j y hj => ?_⟩
      · have hc := hcell 0 (by omega)
        have := World.block_lt_of_cell? W _ hc
        rwa [add_block] at this
      · rw [List.getElem?_map, List.getElem?_take] at hj
        split at hj
        · rename_i hjl
          have hjs : j < ss.length := by omega
          rw [List.getElem?_eq_getElem hjs] at hj
          simp only [Option.map_some, Option.some.injEq] at hj
          rw [hcell j hjs, List.getD_eq_getElem?_getD, List.getElem?_eq_getElem hjs]
          subst hj
          simp
        · simp at hj

set_option maxRecDepth 100000 in
/-- A sum that came in. -/
theorem open_sum {r : Reach} {b0 : Nat} {v : Value} {d : DataW H} {p : List MemPlace} (hv : Value.okWide Try.prog W r b0 24 v) (h : DataW.Trod enc Try.prog W 0 (fun _ => true) true 24 v d p) : ∃ s : SR, v = s.val ∧ s.Rd0 W := by
  obtain ⟨c0, c1, y0, y1, m, rfl, rfl, rfl, hy0, hy1⟩ := open_agg2 Try.underlying24 (by kernel_rfl) cells24 hv h
  obtain ⟨A, c, L, rfl, hc, hl, hr⟩ := open_txts hy0
  obtain ⟨B, d, M, rfl, hd, hm, hr'⟩ := open_txts hy1
  exact ⟨⟨A, B, c, d, L, M⟩, rfl, ⟨hr, hr', hc, hd, hl, hm⟩⟩
end
end Go.Proofs.Ytgenloemohcpcaa
