/- Walks: slices.SortStableFunc at no element; at the order of Greedy in its own words. -/
import Derived.Test.YtejipflkdigbbaaPrt
import Derived.Test.YtejipflkdigbbaaGpl
namespace Go.Proofs.Ytejipflkdigbbaa
open Go.RowKit Go.Shelf Go.Sort

set_option maxHeartbeats 1600000 in
theorem ins53_nil (A : Option Addr) (cap : Nat) (f : Value) (w : World) : Calls Try.prog 53 #[.slice A 0 cap, .int .i64 0, .int .i64 0, f] w fun e w' => e = .returned (.tuple #[]) ∧ w' = w := by
  go_enter Try.func53, Try.ntmps53
  go_wp2
  refine wp_loop_rounds 1 ?_
  rw [rounds_succ]
  go_wp2
  go_end0
  exact ⟨rfl, rfl⟩
set_option maxHeartbeats 1600000 in
theorem stable46_nil (A : Option Addr) (cap : Nat) (f : Value) (w : World) : Calls Try.prog 46 #[.slice A 0 cap, .int .i64 0, f] w fun e w' => e = .returned (.tuple #[]) ∧ w' = w := by
  have hc := ins53_nil A cap f w
  go_enter Try.func46, Try.ntmps46
  go_wp2
  refine wp_loop_rounds 1 ?_
  rw [rounds_succ]
  go_wp2_with (go_at_call 53; refine hc.mono ?_; rintro e w1 ⟨rfl, rfl⟩)
  refine wp_loop_rounds 1 ?_
  rw [rounds_succ]
  go_wp2
  go_end0
  exact ⟨rfl, rfl⟩
theorem stable31_nil (A : Option Addr) (cap : Nat) (f : Value) (w : World) : Calls Try.prog 31 #[.slice A 0 cap, f] w fun e w' => e = .returned (.tuple #[]) ∧ w' = w := by
  have hc := stable46_nil A cap f w
  go_enter Try.func31, Try.ntmps31
  go_wp2_with (go_at_call 46; refine hc.mono ?_; rintro e w1 ⟨rfl, rfl⟩)
  go_end0
  exact ⟨rfl, rfl⟩

theorem putRow_ie {N : Nat} (w : World) (g : Nat) (R : Array (Fin (N + 1))) : putRow ie w g 0 R = putRow iv w g 0 (R.toList.map fun i : Fin (N + 1) => ((i : Nat) : Int)).toArray := by
  unfold putRow
  congr 1
  funext c
  unfold putCells
  congr 1
  funext k x
  have hs : (R.toList.map fun i : Fin (N + 1) => ((i : Nat) : Int)).toArray.size = R.size := by simp
  rw [hs]
  by_cases h : 0 ≤ k ∧ k < 0 + R.size
  · rw [if_pos h, if_pos h]
    have hk : k - 0 < R.size := by omega
    rw [getElem!_pos R (k - 0) hk, getElem!_pos (R.toList.map fun i : Fin (N + 1) => ((i : Nat) : Int)).toArray (k - 0) (by rw [hs]; exact hk)]
    simp [ie]
  · rw [if_neg h, if_neg h]
/-- The indices in turn. -/
def idx (n : Nat) : List Int := (List.range n).map fun j : Nat => (j : Int)
theorem idx_len (n : Nat) : (idx n).length = n := by simp [idx]
theorem sortOrder (A : Option Addr) (c : Nat) (C : List Int) (D g cap B : Nat) (w : World) (h20 : C.length < 20) (hD : w.heap[D]? = some (.cells #[.slice A C.length c] 22 (0, 0))) (hA : RD iv w A C) (hDg : D ≠ g) (hAg : C ≠ [] → ∀ a, A = some a → a.block ≠ g)
    (ho : OT w B (.slice (some ⟨g, 0, none⟩) C.length cap) (idx C.length)) :
    Calls Try.prog 31 #[.slice (some ⟨g, 0, none⟩) C.length cap, .func (.func 32) #[] #[.pointer (some ⟨D, 0, none⟩)]] w fun e w' => e = .returned (.tuple #[]) ∧ OT w' B (.slice (some ⟨g, 0, none⟩) C.length cap) (ord C) ∧ w.grownBy w' (some g) := by
  cases hC : C.length with
  | zero =>
    have hC0 := List.eq_nil_of_length_eq_zero hC
    subst hC0
    refine (stable31_nil _ cap _ w).mono ?_
    rintro e w' ⟨rfl, rfl⟩
    exact ⟨rfl, by simpa [idx, ord, ordU] using ho, World.grownBy.refl _ _⟩
  | succ N =>
    have hH : Holds (ie (N := N)) w g 0 (ids N) := by
      intro j hj
      rw [ids_size] at hj
      have h1 : (⟨g, 0 + j, none⟩ : Addr) = ⟨g, j, none⟩ := by rw [Nat.zero_add]
      rw [h1]
      have hr : w.ownsRow B 3 1 (.slice (some ⟨g, 0, none⟩) C.length cap) C.length ((idx C.length).map iv) := by
        have := ho
        unfold OT at this
        rw [idx_len] at this
        exact this
      have h2 := World.ownsRow.cellAt hr j (by omega)
      refine ⟨?_, World.ownsRow.frozenAt hr j⟩
      rw [h2]
      have h3 := ids_at (N := N) (k := j) (by rw [ids_size]; exact hj)
      have h4 : ie (ids N)[j]! = iv (j : Int) := by unfold ie; rw [h3]
      rw [h4]
      have hj' : j < C.length := by omega
      simp [idx, hj']
    have h := stable31 (N := N) A c C D g cap w hC h20 hD hA hDg (hAg (by intro e; rw [e] at hC; simp at hC)) hH
    rw [hC] at h
    refine h.mono ?_
    rintro e w' ⟨rfl, n, rfl⟩
    rw [putRow_ie, stable_ord C hC]
    have hl : (ord C).length = (idx C.length).length := by rw [idx_len]; exact ordU_len C C.length
    have ho' : OT w B (.slice (some ⟨g, 0, none⟩) (idx C.length).length cap) (idx C.length) := by rw [idx_len]; exact ho
    have h2 := ho'.sorted (ord C) hl n #[]
    rw [idx_len, hC] at h2
    have e : grow (putRow iv (Sort.ahead w n) g 0 (ord C).toArray) #[] = (putRow iv w g 0 (ord C).toArray).drewN n := sortWorld_none iv w g 0 n _
    rw [e] at h2
    exact ⟨rfl, h2.1, h2.2⟩
end Go.Proofs.Ytejipflkdigbbaa
