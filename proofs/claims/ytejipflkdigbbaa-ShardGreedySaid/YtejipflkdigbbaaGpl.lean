/- Plain: what Greedy computes. -/
import Derived.Test.YtejipflkdigbbaaStb
namespace Go.Proofs.Ytejipflkdigbbaa

/-- One index to the part of the least sum. -/
def gstep (C : List Int) (st : List Int × List (List Int)) (i : Int) : List Int × List (List Int) :=
  (st.1.set (lp st.1) (st.1.getD (lp st.1) 0 + cst C i), st.2.set (lp st.1) (st.2.getD (lp st.1) [] ++ [i]))
def gfold (C : List Int) (n k : Nat) : List Int × List (List Int) := ((ord C).take k).foldl (gstep C) (List.replicate n 0, List.replicate n [])
theorem gfold_zero (C : List Int) (n : Nat) : gfold C n 0 = (List.replicate n 0, List.replicate n []) := by simp [gfold]
theorem gfold_succ (C : List Int) (n : Nat) {k : Nat} (hk : k < (ord C).length) : gfold C n (k + 1) = gstep C (gfold C n k) (ord C)[k] := by
  unfold gfold
  rw [List.take_succ_eq_append_getElem hk, List.foldl_append]
  rfl
theorem gfold_len (C : List Int) (n : Nat) : ∀ k, (gfold C n k).1.length = n ∧ (gfold C n k).2.length = n := by
  intro k
  unfold gfold
  generalize (ord C).take k = l
  suffices h : ∀ (l : List Int) (st : List Int × List (List Int)), st.1.length = n ∧ st.2.length = n → (l.foldl (gstep C) st).1.length = n ∧ (l.foldl (gstep C) st).2.length = n from h l _ (by simp)
  intro l
  induction l with
  | nil => intro st h; exact h
  | cons a l ih => intro st h; exact ih _ (by simp [gstep, h])

theorem lpFrom_spec (L : List Int) : ∀ (m b k : Nat), k + m = L.length → b < L.length → (∀ j, j < k → L.getD b 0 ≤ L.getD j 0) → lpFrom (L.getD b 0) b k (L.drop k) < L.length ∧ ∀ j, j < L.length → L.getD (lpFrom (L.getD b 0) b k (L.drop k)) 0 ≤ L.getD j 0
  | 0, b, k, hk, hb, h => by
    rw [lp_end (by omega)]
    exact ⟨hb, fun j hj => h j (by omega)⟩
  | m + 1, b, k, hk, hb, h => by
    have hkl : k < L.length := by omega
    have ek : L.getD k 0 = L[k] := by simp [List.getD_eq_getElem?_getD, hkl]
    rw [lp_step hkl]
    split
    · rename_i hlt
      refine lpFrom_spec L m k (k + 1) (by omega) hkl fun j hj => ?_
      rw [ek]
      rcases Nat.lt_or_ge j k with h1 | h1
      · have := h j h1; omega
      · have : j = k := by omega
        subst this
        omega
    · rename_i hlt
      refine lpFrom_spec L m b (k + 1) (by omega) hb fun j hj => ?_
      rcases Nat.lt_or_ge j k with h1 | h1
      · exact h j h1
      · have : j = k := by omega
        subst this
        omega
theorem lp_lt {L : List Int} (h : L ≠ []) : lp L < L.length := (lpFrom_spec L L.length 0 0 (by omega) (List.length_pos_iff.2 h) (fun _ h => by omega)).1
theorem lp_le {L : List Int} (h : L ≠ []) {j : Nat} (hj : j < L.length) : L.getD (lp L) 0 ≤ L.getD j 0 := (lpFrom_spec L L.length 0 0 (by omega) (List.length_pos_iff.2 h) (fun _ h => by omega)).2 j hj
theorem sum_set (L : List Int) (k : Nat) (hk : k < L.length) (x : Int) : (L.set k x).sum = L.sum - L.getD k 0 + x := by
  induction L generalizing k with
  | nil => simp at hk
  | cons a L ih =>
    cases k with
    | zero => simp; omega
    | succ k =>
      have := ih k (by simpa using hk)
      simp at this ⊢
      omega
end Go.Proofs.Ytejipflkdigbbaa
