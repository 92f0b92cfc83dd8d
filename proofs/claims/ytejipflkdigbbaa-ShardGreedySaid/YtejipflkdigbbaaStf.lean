/- Walks: slices.SortStableFunc at the order of Greedy: fewer than 20 costs. -/
import Derived.Test.YtejipflkdigbbaaSta
namespace Go.Proofs.Ytejipflkdigbbaa
open Go.RowKit Go.Shelf Go.Sort

section
variable {N : Nat}
set_option maxHeartbeats 1600000 in
theorem stable46 (A : Option Addr) (c : Nat) (C : List Int) (D g cap : Nat) (w : World) (hC : C.length = N + 1) (h20 : C.length < 20) (hD : w.heap[D]? = some (.cells #[.slice A C.length c] 22 (0, 0))) (hA : RD iv w A C) (hDg : D ≠ g) (hAg : ∀ a, A = some a → a.block ≠ g)
    (hH : Holds (ie (N := N)) w g 0 (ids N)) :
    Calls Try.prog 46 #[.slice (some ⟨g, 0, none⟩) C.length cap, .int .i64 C.length, .func (.func 32) #[] #[.pointer (some ⟨D, 0, none⟩)]] w fun e w' => e = .returned (.tuple #[]) ∧ ∃ n, w' = (putRow ie w g 0 (insertionSort (ltC (N := N) C) (ids N) 0 (N + 1))).drewN n := by
  have eg : ∀ args w, (callFunc 32 args).run Try.prog w = .ok (.enter 32 args) w := enters_of Try.func32 (by kernel_rfl) rfl
  have hc := Any.insertionSortCmpFunc_one Try.insF (ie (N := N)) ie_one (cfC C) 32 #[.pointer (some ⟨D, 0, none⟩)] g 0 cap 0 (N + 1) (ids N) w eg (cmpReads32 A c C D g w _ hC hD hA hDg hAg) hH (by omega) (by rw [ids_size]; exact Nat.le_refl _) (by rw [ids_size]; omega)
  change Calls Try.prog 53 _ _ _ at hc
  rw [cfC_lt, ids_size] at hc
  rw [hC] at h20
  rw [hC]
  clear hC hD hA hDg hAg hH
  generalize putRow (ie (N := N)) w g 0 (insertionSort (ltC (N := N) C) (ids N) 0 (N + 1)) = wR at hc ⊢
  generalize N + 1 = n0 at *
  go_enter Try.func46, Try.ntmps46
  go_wp2
  refine wp_loop_rounds 1 ?_
  rw [rounds_succ]
  go_wp2_with (go_at_call 53; refine hc.mono ?_; rintro e w1 ⟨rfl, n, rfl⟩)
  refine wp_loop_rounds 1 ?_
  rw [rounds_succ]
  go_wp2
  all_goals first | (exfalso; omega) | (go_end0; exact ⟨rfl, n, rfl⟩)
theorem stable31 (A : Option Addr) (c : Nat) (C : List Int) (D g cap : Nat) (w : World) (hC : C.length = N + 1) (h20 : C.length < 20) (hD : w.heap[D]? = some (.cells #[.slice A C.length c] 22 (0, 0))) (hA : RD iv w A C) (hDg : D ≠ g) (hAg : ∀ a, A = some a → a.block ≠ g)
    (hH : Holds (ie (N := N)) w g 0 (ids N)) :
    Calls Try.prog 31 #[.slice (some ⟨g, 0, none⟩) C.length cap, .func (.func 32) #[] #[.pointer (some ⟨D, 0, none⟩)]] w fun e w' => e = .returned (.tuple #[]) ∧ ∃ n, w' = (putRow ie w g 0 (insertionSort (ltC (N := N) C) (ids N) 0 (N + 1))).drewN n := by
  have hc := stable46 A c C D g cap w hC h20 hD hA hDg hAg hH
  clear hC hD hA hDg hAg hH
  go_enter Try.func31, Try.ntmps31
  go_wp2_with (go_at_call 46; refine hc.mono ?_; rintro e w1 ⟨rfl, n, rfl⟩)
  go_end0
  exact ⟨rfl, n, rfl⟩
end
end Go.Proofs.Ytejipflkdigbbaa
