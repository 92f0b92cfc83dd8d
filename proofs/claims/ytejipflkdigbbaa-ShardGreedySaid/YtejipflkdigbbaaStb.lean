/- Insertion sort is stable, in plain words. -/
import Derived.Sort.LotA
import Derived.Sort.Row
import Derived.Test.YtejipflkdigbbaaPure4
namespace Go.Proofs.Ytejipflkdigbbaa
open Go.Sort

section
variable {N : Nat} (lt lt' : Fin (N + 1) → Fin (N + 1) → Bool)

theorem swp_size (d : Array (Fin (N + 1))) (i j : Nat) : (swp d i j).size = d.size := by simp [swp]
theorem swp_at {d : Array (Fin (N + 1))} {i j : Nat} (hi : i < d.size) (hj : j < d.size) (k : Nat) : (swp d i j)[k]! = if k = j then d[i]! else if k = i then d[j]! else d[k]! := by
  unfold swp
  by_cases h1 : k = j
  · subst h1
    rw [if_pos rfl, getElem!_set_same _ _ _ (by simpa using hj)]
  · rw [if_neg h1, getElem!_set_other _ _ _ _ h1]
    by_cases h2 : k = i
    · subst h2
      rw [if_pos rfl, getElem!_set_same _ _ _ hi]
    · rw [if_neg h2, getElem!_set_other _ _ _ _ h2]
theorem insOuter_eq (lt : Fin (N + 1) → Fin (N + 1) → Bool) (b i : Nat) (d : Array (Fin (N + 1))) : insOuter lt 0 b i d = if i < b then insOuter lt 0 b (i + 1) (insInner lt 0 i d) else d := by rw [insOuter]

theorem insInner_congr (a : Nat) (H : ∀ x y : Fin (N + 1), y < x → lt x y = lt' x y) : ∀ (j : Nat) (d : Array (Fin (N + 1))), j < d.size → (∀ k, k < j → d[k]! < d[j]!) →
    insInner lt a j d = insInner lt' a j d ∧ (insInner lt a j d).size = d.size ∧ (∀ k, j < k → (insInner lt a j d)[k]! = d[k]!) ∧ (∀ v : Nat, (∀ k, k ≤ j → (d[k]! : Nat) < v) → ∀ k, k ≤ j → ((insInner lt a j d)[k]! : Nat) < v)
  | 0, d, _, _ => by simp [insInner]
  | j + 1, d, hj, h => by
    have hl : lt d[j + 1]! d[j]! = lt' d[j + 1]! d[j]! := H _ _ (h j (by omega))
    simp only [insInner]
    rw [← hl]
    split
    · have hs : j < (swp d (j + 1) j).size := by rw [swp_size]; omega
      obtain ⟨e1, e2, e3, e4⟩ := insInner_congr a H j (swp d (j + 1) j) hs (fun k hk => by
        rw [swp_at hj (by omega), swp_at hj (by omega), if_neg (by omega), if_neg (by omega), if_pos rfl]
        exact h k (by omega))
      refine ⟨e1, by rw [e2, swp_size], fun k hk => ?_, fun v hv k hk => ?_⟩
      · rw [e3 k (by omega), swp_at hj (by omega), if_neg (by omega), if_neg (by omega)]
      · by_cases hkj : k ≤ j
        · refine e4 v (fun k' hk' => ?_) k hkj
          rw [swp_at hj (by omega)]
          split
          · exact hv _ (by omega)
          · split
            · exact hv _ (by omega)
            · exact hv _ (by omega)
        · obtain rfl : k = j + 1 := by omega
          rw [e3 _ (by omega), swp_at hj (by omega), if_neg (by omega), if_pos rfl]
          exact hv _ (by omega)
    · exact ⟨rfl, rfl, fun _ _ => rfl, fun v hv => hv⟩

theorem insOuter_congr (b : Nat) (H : ∀ x y : Fin (N + 1), y < x → lt x y = lt' x y) : ∀ (n i : Nat) (d : Array (Fin (N + 1))), b - i = n → b ≤ d.size → (∀ k, k < i → (d[k]! : Nat) < i) → (∀ k, i ≤ k → k < d.size → (d[k]! : Nat) = k) →
    insOuter lt 0 b i d = insOuter lt' 0 b i d
  | 0, i, d, hn, _, _, _ => by
    rw [insOuter_eq lt, insOuter_eq lt', if_neg (by omega), if_neg (by omega)]
  | n + 1, i, d, hn, hb, h1, h2 => by
    have hi : i < b := by omega
    obtain ⟨e1, e2, e3, e4⟩ := insInner_congr lt lt' 0 H i d (by omega) (fun k hk => by
      have := h1 k hk
      have h3 := h2 i (Nat.le_refl _) (by omega)
      show (d[k]! : Nat) < (d[i]! : Nat)
      omega)
    rw [insOuter_eq lt b i d, insOuter_eq lt' b i d, if_pos hi, if_pos hi, ← e1]
    refine insOuter_congr b H n (i + 1) _ (by omega) (by rw [e2]; exact hb) (fun k hk => ?_) (fun k hk hk2 => ?_)
    · refine e4 (i + 1) (fun k' hk' => ?_) k (by omega)
      by_cases h : k' = i
      · subst h; have := h2 k' (Nat.le_refl _) (by omega); omega
      · have := h1 k' (by omega); omega
    · rw [e3 k (by omega)]
      exact h2 k (by omega) (by rw [e2] at hk2; exact hk2)
theorem insertionSort_congr (H : ∀ x y : Fin (N + 1), y < x → lt x y = lt' x y) (d : Array (Fin (N + 1))) (hd : ∀ k, k < d.size → (d[k]! : Nat) = k) (hs : 1 ≤ d.size) : insertionSort lt d 0 d.size = insertionSort lt' d 0 d.size := by
  unfold insertionSort
  refine insOuter_congr lt lt' d.size H _ 1 d rfl (Nat.le_refl _) (fun k hk => ?_) (fun k _ hk => hd k hk)
  obtain rfl : k = 0 := by omega
  have := hd 0 (by omega)
  omega
end

/-- Before: greater cost, or the same cost and a lesser index. -/
def lexP (C : List Int) (x y : Int) : Prop := cst C y < cst C x ∨ (cst C y = cst C x ∧ x < y)
theorem oins_lex (C : List Int) (i : Int) : ∀ l : List Int, l.Pairwise (lexP C) → (∀ z ∈ l, z < i) → (oins C i l).Pairwise (lexP C)
  | [], _, _ => by simp [oins]
  | y :: l, h, hl => by
    rw [List.pairwise_cons] at h
    simp only [oins]
    split
    · rename_i hy
      refine List.pairwise_cons.2 ⟨fun z hz => ?_, oins_lex C i l h.2 (fun z hz => hl z (by simp [hz]))⟩
      rcases List.mem_cons.1 ((oins_perm C i l).mem_iff.1 hz) with rfl | hz
      · have := hl y (by simp)
        unfold lexP
        omega
      · exact h.1 z hz
    · rename_i hy
      refine List.pairwise_cons.2 ⟨fun z hz => ?_, List.pairwise_cons.2 ⟨h.1, h.2⟩⟩
      rcases List.mem_cons.1 hz with rfl | hz
      · left; omega
      · have := h.1 z hz
        unfold lexP at this
        left
        omega
theorem ordU_lex (C : List Int) : ∀ k, (ordU C k).Pairwise (lexP C)
  | 0 => List.Pairwise.nil
  | k + 1 => oins_lex C k _ (ordU_lex C k) (fun _ hz => (ordU_mem hz).2)
theorem lex_unique {C L M : List Int} (hp : L.Perm M) (h1 : L.Pairwise (lexP C)) (h2 : M.Pairwise (lexP C)) : L = M :=
  List.Perm.eq_of_pairwise (fun a b _ _ h h' => by unfold lexP at h h'; omega) h1 h2 hp

section
variable {N : Nat} (C : List Int)
def ltC (x y : Fin (N + 1)) : Bool := decide (cst C (y : Nat) < cst C (x : Nat))
def lexB (x y : Fin (N + 1)) : Bool := decide (cst C (y : Nat) < cst C (x : Nat)) || (decide (cst C (y : Nat) = cst C (x : Nat)) && decide (x < y))
theorem lexB_iff (x y : Fin (N + 1)) : lexB C x y = true ↔ lexP C (x : Nat) (y : Nat) := by
  unfold lexB lexP
  simp only [Bool.or_eq_true, decide_eq_true_eq, Bool.and_eq_true, Fin.lt_def]
  constructor
  · rintro (h | ⟨h1, h2⟩)
    · exact .inl h
    · exact .inr ⟨h1, by omega⟩
  · rintro (h | ⟨h1, h2⟩)
    · exact .inl h
    · exact .inr ⟨h1, by omega⟩
theorem lexB_false (x y : Fin (N + 1)) : lexB C x y = false ↔ ¬ lexP C (x : Nat) (y : Nat) := by rw [← lexB_iff]; simp
theorem lexB_swo : SWO (lexB (N := N) C) where
  irrefl x := by rw [lexB_false]; unfold lexP; omega
  trans x y z h1 h2 := by rw [lexB_iff] at *; unfold lexP at *; omega
  ntrans x y z h1 h2 := by rw [lexB_false] at *; unfold lexP at *; omega
theorem lt_lex (x y : Fin (N + 1)) (h : y < x) : ltC C x y = lexB C x y := by
  unfold ltC lexB
  have : decide (x < y) = false := by simp only [decide_eq_false_iff_not, Fin.lt_def] at *; omega
  rw [this]; simp
def ids (N : Nat) : Array (Fin (N + 1)) := Array.ofFn fun i => i
theorem ids_size : (ids N).size = N + 1 := by simp [ids]
theorem ids_at {k : Nat} (hk : k < (ids N).size) : ((ids N)[k]! : Nat) = k := by
  rw [getElem!_pos _ k hk]
  simp [ids]
/-- The stable sort of the indices is the order. -/
theorem stable_ord (hC : C.length = N + 1) : ((insertionSort (ltC (N := N) C) (ids N) 0 (N + 1)).toList.map fun i : Fin (N + 1) => ((i : Nat) : Int)) = ord C := by
  have e : insertionSort (ltC (N := N) C) (ids N) 0 (N + 1) = insertionSort (lexB (N := N) C) (ids N) 0 (N + 1) := by
    have := insertionSort_congr (ltC (N := N) C) (lexB (N := N) C) (fun x y h => lt_lex C x y h) (ids N) (fun k hk => ids_at hk) (by rw [ids_size]; omega)
    rwa [ids_size] at this
  rw [e]
  obtain ⟨hp, hs⟩ := insertionSort_holds (lexB_swo (N := N) C) (ids N) 0 (N + 1) (by omega) (by rw [ids_size]; exact Nat.le_refl _)
  generalize insertionSort (lexB (N := N) C) (ids N) 0 (N + 1) = res at *
  have hsz : res.size = N + 1 := by rw [hp.1, ids_size]
  refine lex_unique ?_ ?_ (ordU_lex C C.length)
  · have h1 : res.toList.Perm (ids N).toList := by
      have := hp.2.2
      rw [Array.extract_eq_self_of_le (by omega), Array.extract_eq_self_of_le (by rw [ids_size]; exact Nat.le_refl _)] at this
      exact this
    have h2 := h1.map fun i : Fin (N + 1) => ((i : Nat) : Int)
    refine h2.trans ?_
    have e2 : ((ids N).toList.map fun i : Fin (N + 1) => ((i : Nat) : Int)) = (List.range C.length).map fun j : Nat => (j : Int) := by
      rw [hC]
      apply List.ext_getElem
      · simp [ids]
      · intro k h1 h2
        rw [List.getElem_map, List.getElem_map, List.getElem_range]
        have hk : k < (ids N).size := by simpa using h1
        have := ids_at hk
        rw [getElem!_pos _ k hk] at this
        rw [Array.getElem_toList, this]
    rw [e2]
    exact (ordU_perm C C.length).symm
  · rw [List.pairwise_map, List.pairwise_iff_getElem]
    intro i j hi hj hij
    have hi' : i < res.size := by simpa using hi
    have hj' : j < res.size := by simpa using hj
    have h := hs i j (by omega) hij (by omega)
    rw [getElem!_pos _ j hj', getElem!_pos _ i hi', lexB_false] at h
    have hne : (res.toList[i] : Nat) ≠ (res.toList[j] : Nat) := by
      intro he
      have hnd : res.toList.Nodup := by
        have h1 : res.toList.Perm (ids N).toList := by
          have := hp.2.2
          rw [Array.extract_eq_self_of_le (by omega), Array.extract_eq_self_of_le (by rw [ids_size]; exact Nat.le_refl _)] at this
          exact this
        rw [h1.nodup_iff]
        unfold List.Nodup
        rw [List.pairwise_iff_getElem]
        intro a b ha hb hab hh
        have ha' : a < (ids N).size := by simpa using ha
        have hb' : b < (ids N).size := by simpa using hb
        have e1 := ids_at ha'
        have e2 := ids_at hb'
        rw [getElem!_pos _ a ha'] at e1
        rw [getElem!_pos _ b hb'] at e2
        rw [Array.getElem_toList, Array.getElem_toList] at hh
        rw [hh] at e1
        omega
      exact (List.pairwise_iff_getElem.1 hnd) i j hi hj hij (Fin.ext he)
    simp only [Array.getElem_toList] at hne ⊢
    unfold lexP at h ⊢
    omega
end
end Go.Proofs.Ytejipflkdigbbaa
