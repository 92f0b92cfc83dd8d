/- Plain: what the reference's Greedy computes is what Greedy computes. -/
import Derived.Test.YtejipflkdigbbaaPrt
import Derived.Test.YtejipflkdigbbaaGpl
namespace Go.Proofs.Ytejipflkdigbbaa

def rstep (C : List Int) (st : List Int × List (List Int)) (i : Int) : List Int × List (List Int) :=
  (st.1.set (lp st.1) (st.1.getD (lp st.1) 0 + cst C i), st.2.set (lp st.1) (ins i (st.2.getD (lp st.1) [])))
def rfold (C : List Int) (n k : Nat) : List Int × List (List Int) := ((ord C).take k).foldl (rstep C) (List.replicate n 0, List.replicate n [])
theorem rfold_zero (C : List Int) (n : Nat) : rfold C n 0 = (List.replicate n 0, List.replicate n []) := by simp [rfold]
theorem rfold_succ (C : List Int) (n : Nat) {k : Nat} (hk : k < (ord C).length) : rfold C n (k + 1) = rstep C (rfold C n k) (ord C)[k] := by
  unfold rfold
  rw [List.take_succ_eq_append_getElem hk, List.foldl_append]
  rfl
theorem ins_perm (x : Int) : ∀ l : List Int, (ins x l).Perm (x :: l)
  | [] => by simp [ins]
  | y :: l => by
    unfold ins
    split
    · exact ((ins_perm x l).cons y).trans (List.Perm.swap x y l)
    · exact List.Perm.refl _
theorem ins_sorted (x : Int) : ∀ l : List Int, l.Pairwise (· ≤ ·) → (ins x l).Pairwise (· ≤ ·)
  | [], _ => by simp [ins]
  | y :: l, h => by
    rw [List.pairwise_cons] at h
    unfold ins
    split
    · rename_i hlt
      rw [List.pairwise_cons]
      refine ⟨fun z hz => ?_, ins_sorted x l h.2⟩
      rcases List.mem_cons.1 ((ins_perm x l).mem_iff.1 hz) with rfl | hz
      · omega
      · exact h.1 z hz
    · rename_i hlt
      rw [List.pairwise_cons]
      refine ⟨fun z hz => ?_, List.pairwise_cons.2 h⟩
      rcases List.mem_cons.1 hz with rfl | hz
      · omega
      · have := h.1 z hz; omega
theorem ascd_perm (L : List Int) : (ascd L).Perm L := List.mergeSort_perm _ _
theorem ascd_sorted (L : List Int) : (ascd L).Pairwise (· ≤ ·) := by
  have := List.pairwise_mergeSort (le := fun x y : Int => decide (x ≤ y)) (by intro a b c h1 h2; simp at *; omega) (by intro a b; simp; omega) L
  simpa [ascd] using this
theorem asc_unique {L M : List Int} (hp : L.Perm M) (h1 : L.Pairwise (· ≤ ·)) (h2 : M.Pairwise (· ≤ ·)) : L = M :=
  hp.eq_of_pairwise (fun a b _ _ h3 h4 => by omega) h1 h2
theorem ascd_snoc (L : List Int) (x : Int) : ascd (L ++ [x]) = ins x (ascd L) := by
  refine asc_unique ?_ (ascd_sorted _) (ins_sorted x _ (ascd_sorted _))
  refine (ascd_perm _).trans ?_
  refine List.Perm.trans ?_ ((ins_perm x _).trans ((ascd_perm L).cons x)).symm
  exact List.perm_append_singleton x L
theorem ascd_nil : ascd [] = [] := by simp [ascd]
theorem rfold_eq (C : List Int) (n : Nat) : ∀ k, k ≤ (ord C).length → rfold C n k = ((gfold C n k).1, (gfold C n k).2.map ascd) := by
  intro k
  induction k with
  | zero => intro _; rw [rfold_zero, gfold_zero]; simp [ascd_nil]
  | succ k ih =>
    intro hk
    rw [rfold_succ C n (by omega), gfold_succ C n (by omega), ih (by omega)]
    unfold rstep gstep
    simp only [List.map_set, ascd_snoc]
    congr 3
    simp only [List.getD_eq_getElem?_getD, List.getElem?_map]
    cases (gfold C n k).2[lp (gfold C n k).1]? with
    | none => simp [ascd_nil]
    | some L => simp
end Go.Proofs.Ytejipflkdigbbaa
