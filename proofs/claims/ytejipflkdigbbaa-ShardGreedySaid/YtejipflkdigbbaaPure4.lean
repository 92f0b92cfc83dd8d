/- The order of costs, in plain words. -/
import Derived.Test.YtejipflkdigbbaaPure3
namespace Go.Proofs.Ytejipflkdigbbaa

/-- An ascending list with one more number. -/
def ins (x : Int) : List Int → List Int
  | [] => [x]
  | y :: l => if y < x then y :: ins x l else x :: y :: l
theorem ins_eq (x : Int) : ∀ (l : List Int) (k : Nat), k ≤ l.length → (∀ y ∈ l.take k, y < x) → (∀ h : k < l.length, ¬ l[k] < x) → ins x l = l.take k ++ x :: l.drop k
  | [], k, hk, _, _ => by simp at hk; subst hk; simp [ins]
  | y :: l, 0, _, _, h2 => by
    have := h2 (by simp)
    simp only [List.getElem_cons_zero] at this
    simp [ins, this]
  | y :: l, k + 1, hk, h1, h2 => by
    have hy : y < x := h1 y (by simp)
    simp only [ins, hy, if_true, List.take_succ_cons, List.drop_succ_cons, List.cons_append]
    rw [ins_eq x l k (by simpa using hk) (fun z hz => h1 z (by simp [hz])) (fun h => by have := h2 (by simpa using h); simpa using this)]
/-- The cost of an index. -/
def cst (C : List Int) (i : Int) : Int := C.getD i.toNat 0
/-- An index behind all that cost at least as much. -/
def oins (C : List Int) (i : Int) : List Int → List Int
  | [] => [i]
  | y :: l => if cst C i ≤ cst C y then y :: oins C i l else i :: y :: l
theorem oins_eq (C : List Int) (i : Int) : ∀ (l : List Int) (k : Nat), k ≤ l.length → (∀ y ∈ l.take k, cst C i ≤ cst C y) → (∀ h : k < l.length, ¬ cst C i ≤ cst C l[k]) → oins C i l = l.take k ++ i :: l.drop k
  | [], k, hk, _, _ => by simp at hk; subst hk; simp [oins]
  | y :: l, 0, _, _, h2 => by
    have := h2 (by simp)
    simp only [List.getElem_cons_zero] at this
    simp only [oins, if_neg this, List.take_zero, List.drop_zero, List.nil_append]
  | y :: l, k + 1, hk, h1, h2 => by
    have hy : cst C i ≤ cst C y := h1 y (by simp)
    simp only [oins, hy, if_true, List.take_succ_cons, List.drop_succ_cons, List.cons_append]
    rw [oins_eq C i l k (by simpa using hk) (fun z hz => h1 z (by simp [hz])) (fun h => by have := h2 (by simpa using h); simpa using this)]
/-- The first k indices in descending order of their costs. -/
def ordU (C : List Int) : Nat → List Int
  | 0 => []
  | k + 1 => oins C k (ordU C k)
def ord (C : List Int) : List Int := ordU C C.length
theorem oins_perm (C : List Int) (i : Int) : ∀ l : List Int, (oins C i l).Perm (i :: l)
  | [] => List.Perm.refl _
  | y :: l => by
    simp only [oins]
    split
    · exact ((oins_perm C i l).cons y).trans (List.Perm.swap i y l)
    · exact List.Perm.refl _
theorem ordU_perm (C : List Int) : ∀ k : Nat, (ordU C k).Perm ((List.range k).map fun j : Nat => (j : Int))
  | 0 => List.Perm.refl _
  | k + 1 => by
    rw [List.range_succ, List.map_append]
    refine (oins_perm C k (ordU C k)).trans (((ordU_perm C k).cons _).trans ?_)
    exact (List.perm_append_comm (l₁ := [(k : Int)]) (l₂ := (List.range k).map fun j : Nat => (j : Int)))
theorem ordU_len (C : List Int) (k : Nat) : (ordU C k).length = k := by rw [(ordU_perm C k).length_eq]; simp
theorem ordU_mem {C : List Int} {k : Nat} {i : Int} (h : i ∈ ordU C k) : 0 ≤ i ∧ i < k := by
  rw [(ordU_perm C k).mem_iff] at h
  simp only [List.mem_map, List.mem_range] at h
  obtain ⟨j, hj, rfl⟩ := h
  omega
end Go.Proofs.Ytejipflkdigbbaa
