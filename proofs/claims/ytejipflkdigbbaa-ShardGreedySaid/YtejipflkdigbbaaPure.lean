/- Costs, divisions: what the functions compute, in plain words. -/
namespace Go.Proofs.Ytejipflkdigbbaa

def badc (c : Int) : Bool := decide (c < 0) || decide (1099511627776 < c)
theorem badc_false {c : Int} : badc c = false ↔ 0 ≤ c ∧ c ≤ 1099511627776 := by simp [badc]
/-- The error of costs. -/
def cc (L : List Int) : Int := if 1000 < L.length then 4 else if L.any badc then 2 else 0
/-- .. and of a number of parts. -/
def ca (L : List Int) (n : Int) : Int := if cc L ≠ 0 then cc L else if n < 1 ∨ 100 < n then 2 else 0
theorem cc_zero {L : List Int} : cc L = 0 ↔ L.length ≤ 1000 ∧ ∀ c ∈ L, 0 ≤ c ∧ c ≤ 1099511627776 := by
  unfold cc
  by_cases h : 1000 < L.length
  · rw [if_pos h]; simp; omega
  · rw [if_neg h]
    by_cases h2 : L.any badc
    · rw [if_pos h2]
      simp only [List.any_eq_true] at h2
      obtain ⟨c, hc, hb⟩ := h2
      constructor
      · intro h; cases h
      · rintro ⟨-, hx⟩
        rw [badc_false.2 (hx c hc)] at hb
        cases hb
    · rw [if_neg h2]
      simp only [Bool.not_eq_true, List.any_eq_false] at h2
      simp only [true_iff]
      exact ⟨by omega, fun c hc => badc_false.1 (by simpa using h2 c hc)⟩
theorem ca_zero {L : List Int} {n : Int} : ca L n = 0 ↔ cc L = 0 ∧ 1 ≤ n ∧ n ≤ 100 := by
  unfold ca
  by_cases h : cc L = 0
  · rw [if_neg (by simpa using h)]
    by_cases h2 : n < 1 ∨ 100 < n
    · rw [if_pos h2]; simp; omega
    · rw [if_neg h2]; simp [h]; omega
  · rw [if_pos h]; simp [h]

/-- The place of the first least number. -/
def lpFrom (best : Int) (at_ : Nat) : Nat → List Int → Nat
  | _, [] => at_
  | k, x :: r => if x < best then lpFrom x k (k + 1) r else lpFrom best at_ (k + 1) r
def lp (L : List Int) : Nat := lpFrom (L.getD 0 0) 0 0 L
theorem lp_start (L : List Int) : lp L = lpFrom (L.getD 0 0) 0 0 (L.drop 0) := rfl
theorem lp_step {L : List Int} {b k : Nat} (hk : k < L.length) : lpFrom (L.getD b 0) b k (L.drop k) = if L[k] < L.getD b 0 then lpFrom (L.getD k 0) k (k + 1) (L.drop (k + 1)) else lpFrom (L.getD b 0) b (k + 1) (L.drop (k + 1)) := by
  rw [← List.getElem_cons_drop hk]
  simp only [lpFrom]
  rw [show L.getD k 0 = L[k] by simp [List.getD_eq_getElem?_getD, hk]]
theorem lp_end {L : List Int} {b k : Nat} {x : Int} (hk : L.length ≤ k) : lpFrom x b k (L.drop k) = b := by rw [List.drop_eq_nil_of_le hk]; rfl
def gmax (L : List Int) : Int := L.foldl max 0
theorem foldl_max_le (L : List Int) : ∀ a : Int, a ≤ L.foldl max a := by
  induction L with
  | nil => intro a; simp
  | cons x L ih => intro a; simp only [List.foldl_cons]; have := ih (max a x); omega
end Go.Proofs.Ytejipflkdigbbaa
