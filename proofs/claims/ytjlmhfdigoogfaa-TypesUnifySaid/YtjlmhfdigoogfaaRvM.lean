/- Walks: Unify (15): the solver is made. -/
import Derived.Test.YtjlmhfdigoogfaaRvL
namespace Go.Proofs.Ytjlmhfdigoogfaa
open Go.RowKit

theorem mk22 (N : Nat) (h : N ≤ 1000) (W : World) : (Instr.makeSlice 22 (iv N) (iv N)).run Try.prog W = .ok (.slice (some ⟨W.heap.size, 0, none⟩) N N) (W.alloc (.cells (madeCells #[iv 0, iv 0, .slice none 0 0] (N * 3)) 24)) := by
  obtain ⟨i0, hi, hz0, hz1, hz2⟩ := info_parts info24
  have hr := run_make (P := Try.prog) W 22 24 i0 (.agg #[iv 0, iv 0, .slice none 0 0]) Try.underlying22 hi hz0 .i64 .i64 N N (by omega) (Int.le_refl _) (by rw [hz2]; omega) (by omega)
  rw [hz1] at hr
  simp only [Int.toNat_natCast] at hr
  exact hr
theorem made_three (N : Nat) : ∀ i, i < N → (madeCells #[iv 0, iv 0, .slice none 0 0] (N * 3))[i * 3]? = some (iv 0) ∧ (madeCells #[iv 0, iv 0, .slice none 0 0] (N * 3))[i * 3 + 1]? = some (iv 0) ∧ (madeCells #[iv 0, iv 0, .slice none 0 0] (N * 3))[i * 3 + 2]? = some (.slice none 0 0) := by
  intro i hi
  have hs : (madeCells #[iv 0, iv 0, .slice none 0 0] (N * 3)).size = N * 3 := by rw [size_madeCells]
  refine ⟨?_, ?_, ?_⟩
  · rw [Array.getElem?_eq_getElem (by omega)]
    simp [madeCells]
  · rw [Array.getElem?_eq_getElem (by omega)]
    simp [madeCells, Nat.add_mod]
  · rw [Array.getElem?_eq_getElem (by omega)]
    simp [madeCells, Nat.add_mod]
/-- A solver that was just made. -/
theorem smem_new {b : SB} {B : Nat} {V : List Int} {W : World} (hV : V.Nodup) (hN : V.length ≤ 1000) (h1 : 0 < V.length → b.A1 = some ⟨b.ub, 0, none⟩)
    (hs : W.heap[b.sp]? = some (.cells #[.slice b.A0 V.length b.c0, .slice b.A1 V.length b.c1, .slice (some ⟨b.ib, 0, none⟩) V.length V.length, .slice (some ⟨b.tb, 0, none⟩) V.length V.length] 82 (0, 0)))
    (hv : RD 1 NC W b.A0 V) (hu : 0 < V.length → ∃ c, W.heap[b.ub]? = some (.cells c 3 (0, 0)) ∧ ∀ i, i < V.length → c[i]? = some (iv i))
    (hi : W.heap[b.ib]? = some (.cells (Array.replicate V.length (.bool false)) 4 (0, 0))) (ht : W.heap[b.tb]? = some (.cells (madeCells #[iv 0, iv 0, .slice none 0 0] (V.length * 3)) 24 (0, 0)))
    (bv : 0 < V.length → ∀ a, b.A0 = some a → a.block < B) (lo : B ≤ b.sp ∧ B ≤ b.ub ∧ B ≤ b.ib ∧ B ≤ b.tb) (ne : b.sp ≠ b.ub ∧ b.sp ≠ b.ib ∧ b.sp ≠ b.tb ∧ b.ub ≠ b.ib ∧ b.ub ≠ b.tb ∧ b.ib ≠ b.tb) (ul : b.ub < W.heap.size) :
    SMem b B V (SS0 V) (List.replicate V.length (.mk 0 0 none 0 [])) W := by
  refine ⟨ss0_wf hV, hN, h1, hs, hv, fun hn => ?_, ⟨_, hi, fun i hi => ?_⟩, ⟨_, ht, fun i hi => ?_⟩, ?_, fun y hy => ?_, bv, lo, ne, ul⟩
  · obtain ⟨c, e, h⟩ := hu hn
    exact ⟨c, e, fun i hi => by rw [ss0_u V hi]; exact h i hi⟩
  · rw [ss0_b, Array.getElem?_replicate, if_pos hi]
  · obtain ⟨e0, e1, e2⟩ := made_three V.length i hi
    exact ⟨.mk 0 0 none 0 [], by rw [List.getElem?_replicate, if_pos hi], e0, e1, e2⟩
  · rw [List.map_replicate]; rfl
  · obtain rfl := List.eq_of_mem_replicate hy
    exact ⟨TRd.nil _, TIn.nil⟩
end Go.Proofs.Ytjlmhfdigoogfaa
