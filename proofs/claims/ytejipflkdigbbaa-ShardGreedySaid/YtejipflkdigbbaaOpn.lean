/- Arguments that are numbers and rows of numbers, opened. -/
import Derived.Test.YtejipflkdigbbaaRows
import Derived.Test.YtejipflkdigbbaaAwk
import Derived.ProofKit
import Derived.OpenShut
import Derived.Deep.Matrix
import Derived.ChangeSlices
import Derived.Lib.SmallJoins
namespace Go.Proofs.Ytejipflkdigbbaa
open Go.ChangeShapes Go.WideShapes Go.ChangeAt Go.RowKit Go.Joins Go.Deep

theorem own : ownKnob Try.prog.godebug = none := by kernel_rfl
theorem laidOut : laidOutB Try.prog = true := by kernel_rfl
theorem cells3 : Try.prog.cellsOf 3 = 1 := by kernel_rfl
theorem cells22 : Try.prog.cellsOf 22 = 1 := by kernel_rfl

section
variable {H : Type} {enc : TypeId × Value → H} {W : World}
theorem sliceVal {r : Reach} {b0 : Nat} {t e : TypeId} {v : Value} (ht : Try.prog.underlying t = some (.slice e)) (hv : Value.okWide Try.prog W r b0 t v) : ∃ A n c, v = .slice A n c := by
  simp only [Value.okWide, ht, Cell.okWide] at hv
  cases v <;> simp_all [Cell.ok]
theorem rd_of {a : Addr} {len : Nat} {zs : List Int} (hl : len ≤ zs.length) (hcell : ∀ i, i < zs.length → W.cell? (a.add i) = some (.int .i64 (zs.getD i 0))) : RD iv W (some a) (zs.take len) := by
  rcases Nat.eq_zero_or_pos len with h0 | h0
  · left; subst h0; simp
  · refine .inr ⟨a, rfl, ?_, fun j y hj => ?_⟩
    · have hc := hcell 0 (by omega)
      have := World.block_lt_of_cell? W _ hc
      rwa [add_block] at this
    · rw [List.getElem?_take] at hj
      split at hj
      · rename_i hjl
        have hjs : j < zs.length := by omega
        rw [hcell j hjs, List.getD_eq_getElem?_getD, hj]
        rfl
      · simp at hj
/-- A slice of numbers that came in. -/
theorem open_nums {r : Reach} {b0 : Nat} {v : Value} {d : DataW H} {p : List MemPlace} (hv : Value.okWide Try.prog W r b0 22 v) (h : DataW.Trod enc Try.prog W 0 (fun _ => true) true 22 v d p) :
    ∃ (A : Option Addr) (c : Nat) (L : List Int), v = .slice A L.length c ∧ L.length ≤ c ∧ L.length ≤ 9223372036854775807 ∧ RD iv W A L := by
  obtain ⟨A, n, c, rfl⟩ := sliceVal Try.underlying22 hv
  obtain ⟨fuel, hf⟩ := h
  rcases open_ints Try.underlying22 Try.underlying3 cells3 hf with ⟨hcs, _⟩ | ⟨a, len, cap, zs, hcs, _, hl, hm, hz, _, hcell, _⟩
  · have e : Value.slice A n c = .slice none 0 0 := by simpa [Value.cells] using hcs
    exact ⟨none, 0, [], e, by simp, by simp, .inl rfl⟩
  · have e : Value.slice A n c = .slice (some a) len cap := by simpa [Value.cells] using hcs
    have hz' : zs.length = cap := by simpa using hz
    have hm' : cap ≤ 9223372036854775807 := by unfold maxLen at hm; omega
    have hlen : (zs.take len).length = len := by simp; omega
    exact ⟨some a, cap, zs.take len, by rw [hlen]; exact e, by rw [hlen]; exact hl, by rw [hlen]; omega, rd_of (by omega) hcell⟩
/-- Rows of numbers that came in. -/
theorem open_rows {r : Reach} {b0 : Nat} {v : Value} {d : DataW H} {p : List MemPlace} (hv : Value.okWide Try.prog W r b0 23 v) (h : DataW.Trod enc Try.prog W 0 (fun _ => true) true 23 v d p) :
    ∃ (A : Option Addr) (c : Nat) (R : List Row), v = .slice A R.length c ∧ R.length ≤ 9223372036854775807 ∧ Rws W A R := by
  obtain ⟨A, n, c, rfl⟩ := sliceVal Try.underlying23 hv
  obtain ⟨fuel, hf⟩ := h
  rcases open_int_rows Try.underlying23 Try.underlying22 Try.underlying3 cells22 cells3 hf with ⟨hcs, _⟩ | ⟨a, len, cap, A', L, C, Z, hcs, _, hl, hm, _, hr⟩
  · have e : Value.slice A n c = .slice none 0 0 := by simpa [Value.cells] using hcs
    exact ⟨none, 0, [], e, by simp, ⟨.inl rfl, fun x hx => by simp at hx⟩⟩
  · have e : Value.slice A n c = .slice (some a) len cap := by simpa [Value.cells] using hcs
    have hm' : cap ≤ 9223372036854775807 := by unfold maxLen at hm; omega
    have key : ∀ r, r < len → ((Z r).take (L r)).length = L r := fun r hr' => by
      obtain ⟨_, h1, _, h3, _⟩ := hr r (by omega)
      rw [List.length_take]
      omega
    refine ⟨some a, cap, (List.range len).map fun r => ⟨A' r, C r, (Z r).take (L r)⟩, by rw [List.length_map, List.length_range]; exact e, by simp; omega, ?_, fun x hx => ?_⟩
    · rcases Nat.eq_zero_or_pos len with h0 | h0
      · left; subst h0; simp
      · refine .inr ⟨a, rfl, ?_, fun j y hj => ?_⟩
        · have := World.block_lt_of_cell? W _ (hr 0 (by omega)).1
          rwa [add_block] at this
        · rw [List.getElem?_map] at hj
          by_cases hjl : j < len
          · rw [List.getElem?_range hjl] at hj
            simp only [Option.map_some, Option.some.injEq] at hj
            subst hj
            rw [(hr j (by omega)).1]
            unfold Row.val
            simp only [key j hjl]
          · rw [List.getElem?_eq_none (by simp; omega)] at hj; simp at hj
    · obtain ⟨r, hr', rfl⟩ := List.mem_map.1 hx
      rw [List.mem_range] at hr'
      obtain ⟨_, h1, h2, h3, _, h5, h6⟩ := hr r (by omega)
      have h2' : C r ≤ 9223372036854775807 := by unfold maxLen at h2; omega
      refine ⟨?_, by show ((Z r).take (L r)).length ≤ C r; rw [key r hr']; exact h1, by show ((Z r).take (L r)).length ≤ _; rw [key r hr']; omega⟩
      show RD iv W (A' r) ((Z r).take (L r))
      cases hA : A' r with
      | none =>
        left
        have := h5 hA
        have : L r = 0 := by omega
        rw [this]; simp
      | some a' =>
        exact rd_of (by omega) fun i hi => (h6 a' hA).2 i (by omega)
end
end Go.Proofs.Ytejipflkdigbbaa
