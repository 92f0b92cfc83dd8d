/- The least span of all divisions, in plain words. -/
import Derived.Test.YtejipflkdigbbaaPure3
namespace Go.Proofs.Ytejipflkdigbbaa

/-- The costs of parts, one more cost in some part, or in a new one. -/
def opt (c : Int) (S : List Int) (k : Nat) : List Int := if k < S.length then S.set k (S.getD k 0 + c) else S ++ [c]
def opts (c : Int) (S : List Int) (n : Nat) : List (List Int) := (List.range (if S.length < n then S.length + 1 else S.length)).map (opt c S)
def leaves (n : Nat) : List Int → List Int → List (List Int)
  | [], S => [S]
  | c :: r, S => (opts c S n).flatMap (leaves n r)
def upd1 (b x : Int) : Int := if b < 0 ∨ x < b then x else b
def mn (b : Int) (xs : List Int) : Int := xs.foldl upd1 b
def bestR (n : Nat) : List Int → List Int → Int
  | [], S => gmax S
  | c :: r, S => mn (-1) ((opts c S n).map (bestR n r))

theorem upd1_assoc {b x m : Int} (hx : 0 ≤ x) : upd1 (upd1 b x) m = upd1 b (upd1 x m) := by
  unfold upd1
  repeat' split
  all_goals omega
theorem upd1_nonneg {b x : Int} (hx : 0 ≤ x) : 0 ≤ upd1 b x := by
  unfold upd1; split <;> omega
theorem mn_nonneg : ∀ (xs : List Int) (b : Int), 0 ≤ b → (∀ x ∈ xs, 0 ≤ x) → 0 ≤ mn b xs
  | [], b, hb, _ => hb
  | x :: xs, b, hb, h => mn_nonneg xs _ (upd1_nonneg (h x (by simp))) fun y hy => h y (by simp [hy])
theorem mn_one {b : Int} : ∀ (xs : List Int), xs ≠ [] → (∀ x ∈ xs, 0 ≤ x) → mn b xs = upd1 b (mn (-1) xs)
  | [x], _, _ => by simp [mn, upd1]
  | x :: y :: xs, _, h => by
    have h1 := mn_one (b := upd1 b x) (y :: xs) (by simp) fun z hz => h z (List.mem_cons_of_mem _ hz)
    have h2 := mn_one (b := x) (y :: xs) (by simp) fun z hz => h z (List.mem_cons_of_mem _ hz)
    have hx := h x (by simp)
    have e1 : mn b (x :: y :: xs) = mn (upd1 b x) (y :: xs) := rfl
    have e2 : mn (-1) (x :: y :: xs) = mn x (y :: xs) := by
      show mn (upd1 (-1) x) (y :: xs) = _
      simp [upd1]
    rw [e1, e2, h1, h2, upd1_assoc hx]
theorem mn_neg {xs : List Int} (hne : xs ≠ []) (h : ∀ x ∈ xs, 0 ≤ x) : 0 ≤ mn (-1) xs := by
  cases xs with
  | nil => exact absurd rfl hne
  | cons x xs =>
    show 0 ≤ mn (upd1 (-1) x) xs
    exact mn_nonneg xs _ (upd1_nonneg (h x (by simp))) fun z hz => h z (by simp [hz])
theorem mn_append (b : Int) (xs ys : List Int) : mn b (xs ++ ys) = mn (mn b xs) ys := by simp [mn, List.foldl_append]
theorem mn_flat {α : Type} (f : α → List Int) : ∀ (l : List α) (b : Int), (∀ a ∈ l, f a ≠ [] ∧ ∀ x ∈ f a, 0 ≤ x) → mn b (l.map fun a => mn (-1) (f a)) = mn b (l.flatMap f)
  | [], b, _ => rfl
  | a :: l, b, h => by
    obtain ⟨h1, h2⟩ := h a (by simp)
    simp only [List.flatMap_cons, mn_append]
    rw [mn_one (b := b) (f a) h1 h2]
    show mn (upd1 b (mn (-1) (f a))) (l.map fun a => mn (-1) (f a)) = _
    exact mn_flat f l _ fun c hc => h c (by simp [hc])
theorem gmax_nonneg (L : List Int) : 0 ≤ gmax L := foldl_max_le L 0
theorem opt_len (c : Int) (S : List Int) (k : Nat) : (opt c S k).length = if k < S.length then S.length else S.length + 1 := by
  unfold opt; split <;> simp
theorem opts_ne {c : Int} {S : List Int} {n : Nat} (hn : 1 ≤ n) : opts c S n ≠ [] := by
  unfold opts
  intro h
  have := congrArg List.length h
  simp at this
  split at this
  · omega
  · simp at *; subst this; simp at *; omega
theorem leaves_ne {n : Nat} (hn : 1 ≤ n) : ∀ (C S : List Int), leaves n C S ≠ []
  | [], S => by simp [leaves]
  | c :: r, S => by
    simp only [leaves]
    obtain ⟨o, os, e⟩ : ∃ o os, opts c S n = o :: os := by
      cases h : opts c S n with
      | nil => exact absurd h (opts_ne hn)
      | cons o os => exact ⟨o, os, rfl⟩
    rw [e]
    simp only [List.flatMap_cons]
    intro h
    exact leaves_ne hn r o (List.append_eq_nil_iff.1 h).1
theorem bestR_eq {n : Nat} (hn : 1 ≤ n) : ∀ (C S : List Int), bestR n C S = mn (-1) ((leaves n C S).map gmax)
  | [], S => by simp [bestR, leaves, mn, upd1]
  | c :: r, S => by
    simp only [bestR, leaves]
    rw [List.map_flatMap, ← mn_flat (fun o => (leaves n r o).map gmax)]
    · congr 1
      apply List.map_congr_left
      intro o _
      exact bestR_eq hn r o
    · intro o _
      refine ⟨by simpa using leaves_ne hn r o, fun x hx => ?_⟩
      simp only [List.mem_map] at hx
      obtain ⟨S', -, rfl⟩ := hx
      exact gmax_nonneg S'
theorem bestR_nonneg {n : Nat} (hn : 1 ≤ n) (C S : List Int) : 0 ≤ bestR n C S := by
  rw [bestR_eq hn]
  refine mn_neg (by simpa using leaves_ne hn C S) fun x hx => ?_
  simp only [List.mem_map] at hx
  obtain ⟨S', -, rfl⟩ := hx
  exact gmax_nonneg S'
/-- The number of ways to put a cost. -/
def wys (S : List Int) (n : Nat) : Nat := if S.length < n then S.length + 1 else S.length
theorem opts_len (c : Int) (S : List Int) (n : Nat) : (opts c S n).length = wys S n := by simp [opts, wys]
theorem opts_take {c : Int} {S : List Int} {n k : Nat} (h : k < wys S n) : (opts c S n).take (k + 1) = (opts c S n).take k ++ [opt c S k] := by
  rw [List.take_succ_eq_append_getElem (by rw [opts_len]; exact h)]
  simp [opts]
theorem mn_take {n k : Nat} {C S : List Int} {d : Int} (h : k < wys S n) : mn (-1) (((opts d S n).take (k + 1)).map (bestR n C)) = upd1 (mn (-1) (((opts d S n).take k).map (bestR n C))) (bestR n C (opt d S k)) := by
  rw [opts_take h, List.map_append, mn_append]; rfl
end Go.Proofs.Ytejipflkdigbbaa
