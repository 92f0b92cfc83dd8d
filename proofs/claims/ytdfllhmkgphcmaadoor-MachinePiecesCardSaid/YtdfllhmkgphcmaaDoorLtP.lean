/- Plain: runs in pieces. -/
import Derived.Test.YtdfllhmkgphcmaaDoorLtE
namespace Go.Proofs.YtdfllhmkgphcmaaDoor

theorem it_succ (m : MM) : ∀ j : Nat, itM j (stepM m) = itM (j + 1) m
  | 0 => rfl
  | j + 1 => by
    show stepM (itM j (stepM m)) = stepM (itM (j + 1) m)
    rw [it_succ m j]
theorem runE_it : ∀ (n : Nat) (m : MM), ended m = false → ∃ N, N ≤ n ∧ (runE n m).1 = itM N m ∧ (∀ j, j < N → ended (itM j m) = false) ∧ ((runE n m).2 = 27 → N = n)
  | 0, m, _ => ⟨0, Nat.le_refl _, rfl, fun j hj => by omega, fun _ => rfl⟩
  | n + 1, m, he => by
    rw [runE]
    by_cases hs : ended (stepM m) = true
    · rw [if_pos hs]
      refine ⟨1, by omega, rfl, fun j hj => ?_, fun h => by cases h⟩
      obtain rfl : j = 0 := by omega
      exact he
    · rw [if_neg hs]
      obtain ⟨N, h1, h2, h3, h4⟩ := runE_it n (stepM m) (by simpa using hs)
      refine ⟨N + 1, by omega, by rw [h2, it_succ], fun j hj => ?_, fun h => by rw [h4 h]⟩
      rcases j with _ | j
      · exact he
      · rw [← it_succ]; exact h3 j (by omega)
theorem it_keep {n : Nat} {m : MM} (h : MI n m) : ∀ N : Nat, (∀ j, j < N → ended (itM j m) = false) → MI (n + 2 * N) (itM N m) ∧ (itM N m).bs = m.bs ∧ (itM N m).steps = m.steps + N
  | 0, _ => ⟨h, rfl, by simp [itM]⟩
  | N + 1, hj => by
    obtain ⟨h1, h2, h3⟩ := it_keep h N fun j hj' => hj j (by omega)
    obtain ⟨k1, k2, k3⟩ := stepM_keep h1 (hj N (by omega))
    exact ⟨k1, k2.trans h2, by rw [itM, k3, h3]; omega⟩
theorem runE_add : ∀ (k n : Nat) (m : MM), ended m = false → ((runE k m).2 = 27 ∧ ended (runE k m).1 = false ∧ runE (k + n) m = runE n (runE k m).1) ∨ ((runE k m).2 = 0 ∧ ended (runE k m).1 = true ∧ runE (k + n) m = ((runE k m).1, 0))
  | 0, n, m, he => .inl ⟨rfl, he, by rw [Nat.zero_add]; rfl⟩
  | k + 1, n, m, he => by
    rw [show k + 1 + n = k + n + 1 by omega, runE, runE]
    by_cases hs : ended (stepM m) = true
    · rw [if_pos hs, if_pos hs]
      exact .inr ⟨rfl, hs, rfl⟩
    · rw [if_neg hs, if_neg hs]
      exact runE_add k n (stepM m) (by simpa using hs)
/-- Two runs, one behind the other, and the whole. -/
theorem pieces (k n : Nat) (m : MM) (h : MI 1 m) (hs : m.steps = 0) (he : ended m = false) (hk : k ≤ 100) (hn : n ≤ 100) :
    ∃ (a c : MM) (e g : Int) (N : Nat), runE k m = (a, e) ∧ runE (k + n) m = (c, g) ∧ (if ended a then (a, 0) else runE n a) = (c, g) ∧ (e = 0 ∧ ended a = true ∨ e = 27 ∧ ended a = false ∧ a.steps = k) ∧ (g = 0 ∨ g = 27 ∧ c.steps = k + n) ∧ c.steps ≤ k + n ∧
      MI 401 a ∧ c = itM N m ∧ c.steps = N ∧ N ≤ 200 ∧ ∀ j, j ≤ N → MI 401 (itM j m) ∧ (itM j m).steps = j ∧ (j < N → ended (itM j m) = false) := by
  obtain ⟨K, k1, k2, k3, k4⟩ := runE_it k m he
  obtain ⟨N, n1, n2, n3, n4⟩ := runE_it (k + n) m he
  obtain ⟨a1, _, a3⟩ := it_keep h K k3
  have up : ∀ {q : Nat} {x : MM}, q ≤ 401 → MI q x → MI 401 x := fun hq e1 => ⟨⟨by have := e1.ok.1; omega, by have := e1.ok.2.1; omega, fun v hv => (e1.ok.2.2.1 v hv).mono hq, fun f hf => (e1.ok.2.2.2 f hf).mono hq⟩, e1.vb, e1.lb, e1.st, e1.fd, e1.ds⟩
  obtain ⟨_, _, c3⟩ := it_keep h N n3
  obtain ⟨q, _, _, _, q3⟩ := run_endF (k + n) 1 m h he
  refine ⟨_, _, _, _, N, rfl, rfl, ?_, ?_, ?_, by rw [n2, c3, hs]; omega, by rw [k2]; exact up (by omega) a1, n2, by rw [n2, c3, hs]; omega, by omega, fun j hj => ?_⟩
  · rcases runE_add k n m he with ⟨r1, r2, r3⟩ | ⟨r1, r2, r3⟩
    · rw [if_neg (by rw [r2]; simp), ← r3]
    · rw [if_pos r2, ← r3]
  · rcases runE_add k n m he with ⟨r1, r2, r3⟩ | ⟨r1, r2, r3⟩
    · refine .inr ⟨r1, r2, ?_⟩
      rw [k2, a3, hs, k4 r1]
      omega
    · exact .inl ⟨r1, r2⟩
  · rcases q3 with ⟨r1, _⟩ | ⟨r1, _⟩ | ⟨r1, _⟩
    · refine .inr ⟨r1, ?_⟩
      rw [n2, c3, hs, n4 r1]
      omega
    · exact .inl r1
    · exact .inl r1
  · obtain ⟨d1, _, d3⟩ := it_keep h j fun i hi => n3 i (by omega)
    exact ⟨up (by omega) d1, by rw [d3, hs]; omega, n3 j⟩
end Go.Proofs.YtdfllhmkgphcmaaDoor
