/- Plain: Greedy returns a division; what bounds its span. -/
import Derived.Test.YtejipflkdigbbaaQgr
import Derived.Test.YtejipflkdigbbaaGrp
import Derived.Test.YtejipflkdigbbaaGrw
namespace Go.Proofs.Ytejipflkdigbbaa

theorem mark_len : ∀ (L : List Int) (S : List Bool), (mark S L).length = S.length
  | [], _ => rfl
  | i :: L, S => by
    show (mark (S.set i.toNat true) L).length = _
    rw [mark_len L]; simp
theorem bset_same {S : List Bool} {j : Nat} (hj : j < S.length) : (S.set j true).getD j false = true := by simp [List.getD_eq_getElem?_getD, hj]
theorem bset_other {S : List Bool} {j k : Nat} (h : j ≠ k) : (S.set j true).getD k false = S.getD k false := by simp [List.getD_eq_getElem?_getD, List.getElem?_set_ne h]
theorem mark_on : ∀ (L : List Int) (S : List Bool) (j : Nat), S.getD j false = true → (mark S L).getD j false = true
  | [], _, _, h => h
  | i :: L, S, j, h => by
    refine mark_on L (S.set i.toNat true) j ?_
    by_cases e : i.toNat = j
    · subst e
      refine bset_same ?_
      rcases Nat.lt_or_ge i.toNat S.length with h1 | h1
      · exact h1
      · rw [List.getD_eq_getElem?_getD, List.getElem?_eq_none h1] at h; simp at h
    · rw [bset_other e]; exact h
theorem mark_hit : ∀ (L : List Int) (S : List Bool) (i : Int), i ∈ L → i.toNat < S.length → (mark S L).getD i.toNat false = true
  | x :: L, S, i, h, hl => by
    show (mark (S.set x.toNat true) L).getD i.toNat false = true
    rcases List.mem_cons.1 h with rfl | h
    · exact mark_on L _ _ (bset_same hl)
    · exact mark_hit L _ i h (by simpa using hl)
theorem mark_off : ∀ (L : List Int) (S : List Bool) (j : Nat), (∀ i ∈ L, i.toNat ≠ j) → (mark S L).getD j false = S.getD j false
  | [], _, _, _ => rfl
  | x :: L, S, j, h => by
    show (mark (S.set x.toNat true) L).getD j false = _
    rw [mark_off L _ j fun i hi => h i (by simp [hi]), bset_other (h x (by simp))]
theorem ckP_go {n : Nat} : ∀ (L : List Int) (p : Option Int) (S : List Bool), (∀ i ∈ L, 0 ≤ i ∧ i < n) → (∀ q, p = some q → ∀ i ∈ L, q < i) → L.Pairwise (· < ·) → (∀ i ∈ L, S.getD i.toNat false = false) → ckP n p L S = (0, mark S L)
  | [], p, S, _, _, _, _ => rfl
  | i :: r, p, S, h1, h2, h3, h4 => by
    rw [List.pairwise_cons] at h3
    have hi := h1 i (by simp)
    have e : ck1 n p i S = 0 := by
      unfold ck1
      rw [if_neg (by omega), if_neg ?_, if_neg ?_]
      · rw [h4 i (by simp)]; simp
      · cases p with
        | none => simp
        | some q => have := h2 q rfl i (by simp); simp; omega
    simp only [ckP]
    rw [if_neg (by simpa using e)]
    refine ckP_go r (some i) _ (fun j hj => h1 j (by simp [hj])) (fun q hq j hj => by cases hq; exact h3.1 j hj) h3.2 fun j hj => ?_
    have hj1 := h3.1 j hj
    rw [bset_other (by omega)]
    exact h4 j (by simp [hj])
theorem ckPs_go {n : Nat} : ∀ (l : List (List Int)) (S : List Bool), (∀ i ∈ l.flatten, 0 ≤ i ∧ i < n) → (∀ L ∈ l, L.Pairwise (· < ·)) → l.flatten.Nodup → (∀ i ∈ l.flatten, S.getD i.toNat false = false) → ckPs n l S = (0, mark S l.flatten)
  | [], S, _, _, _, _ => rfl
  | p :: r, S, h1, h2, h3, h4 => by
    rw [List.flatten_cons, List.nodup_append] at h3
    have e := ckP_go p none S (fun i hi => h1 i (by simp [hi])) (fun q hq => by cases hq) (h2 p (by simp)) fun i hi => h4 i (by simp [hi])
    simp only [ckPs]
    rw [e, if_neg (by simp), ckPs_go r _ (fun i hi => h1 i (by rw [List.flatten_cons]; exact List.mem_append_right _ hi)) (fun L hL => h2 L (by simp [hL])) h3.2.1]
    · simp [mark, List.foldl_append]
    · intro i hi
      have hi' := h1 i (by rw [List.flatten_cons]; exact List.mem_append_right _ hi)
      rw [mark_off p S _ fun j hj => ?_]
      · exact h4 i (by rw [List.flatten_cons]; exact List.mem_append_right _ hi)
      · have hj' := h1 j (by rw [List.flatten_cons]; exact List.mem_append_left _ hj)
        have hne := h3.2.2 j hj i hi
        omega
theorem idx_nodup (n : Nat) : (idx n).Nodup := by
  unfold idx
  exact List.pairwise_map.2 ((List.nodup_range (n := n)).imp fun h => by omega)
theorem ck_of {C : List Int} {l : List (List Int)} (hcc : cc C = 0) (hp : l.flatten.Perm (idx C.length)) (hs : ∀ L ∈ l, L.Pairwise (· < ·)) : ck C l = 0 := by
  have hmem : ∀ i ∈ l.flatten, 0 ≤ i ∧ i < C.length := by
    intro i hi
    have := hp.mem_iff.1 hi
    unfold idx at this
    obtain ⟨j, hj, rfl⟩ := List.mem_map.1 this
    rw [List.mem_range] at hj
    omega
  have hnd : l.flatten.Nodup := by
    rw [hp.nodup_iff]
    exact idx_nodup _
  unfold ck
  rw [if_neg (by simpa using hcc), ckPs_go l _ hmem hs hnd fun i hi => by
    rw [List.getD_eq_getElem?_getD, List.getElem?_replicate]; split <;> rfl, fin_zero, if_neg ?_]
  intro h
  rw [List.contains_eq_mem, decide_eq_true_eq] at h
  obtain ⟨j, hj, e⟩ := List.getElem_of_mem h
  rw [mark_len, List.length_replicate] at hj
  have hin : (j : Int) ∈ l.flatten := hp.mem_iff.2 (by unfold idx; exact List.mem_map.2 ⟨j, List.mem_range.2 hj, rfl⟩)
  have := mark_hit l.flatten (List.replicate C.length false) (j : Int) hin (by simpa using hj)
  rw [Int.toNat_natCast, List.getD_eq_getElem?_getD, List.getElem?_eq_getElem (by rw [mark_len, List.length_replicate]; exact hj), e] at this
  simp at this
theorem getD_map_psum (C : List Int) (P : List (List Int)) (j : Nat) : (P.map (psum C)).getD j 0 = psum C (P.getD j []) := by
  simp only [List.getD_eq_getElem?_getD, List.getElem?_map]
  cases P[j]? <;> simp [psum]
theorem gfold_psum (C : List Int) (n : Nat) : ∀ k, k ≤ (ord C).length → (gfold C n k).2.map (psum C) = (gfold C n k).1 := by
  intro k
  induction k with
  | zero => intro _; rw [gfold_zero]; simp [psum]
  | succ k ih =>
    intro hk
    rw [gfold_succ C n (by omega)]
    have ih' := ih (by omega)
    unfold gstep
    simp only [List.map_set, psum_append]
    rw [ih', ← getD_map_psum, ih']
    simp [psum, cst]
theorem gfold_flat (C : List Int) {n : Nat} (hn : 1 ≤ n) : ∀ k, k ≤ (ord C).length → (gfold C n k).2.flatten.Perm ((ord C).take k) := by
  intro k
  induction k with
  | zero => intro _; rw [gfold_zero]; simp
  | succ k ih =>
    intro hk
    have hl := gfold_len C n k
    have hne : (gfold C n k).1 ≠ [] := by intro e; have := hl.1; rw [e] at this; simp at this; omega
    rw [gfold_succ C n (by omega), List.take_succ_eq_append_getElem (by omega)]
    unfold gstep
    refine (flat_snoc _ _ _ (by have h1 := lp_lt hne; have h2 := hl.1; have h3 := hl.2; omega)).trans ?_
    exact ((ih (by omega)).cons _).trans (List.perm_append_singleton _ _).symm
theorem flat_ascd : ∀ P : List (List Int), (P.map ascd).flatten.Perm P.flatten
  | [] => by simp
  | p :: P => by
    simp only [List.map_cons, List.flatten_cons]
    exact (ascd_perm p).append (flat_ascd P)
theorem psum_ascd (C p : List Int) : psum C (ascd p) = psum C p := by
  unfold psum
  exact isum_perm ((ascd_perm p).map _)
section
variable {C : List Int} {N : Nat} (h : ca C N = 0)
include h
theorem greedy_eq : greedy C N = (gfold C N C.length).2.map ascd := by unfold greedy; rw [if_pos h]; simp
theorem ca_parts : cc C = 0 ∧ 1 ≤ N ∧ N ≤ 100 ∧ C.length ≤ 1000 ∧ ∀ c ∈ C, 0 ≤ c ∧ c ≤ 1099511627776 := by
  obtain ⟨h1, h2, h3⟩ := ca_zero.1 h
  obtain ⟨h4, h5⟩ := cc_zero.1 h1
  exact ⟨h1, by omega, by omega, h4, h5⟩
theorem greedy_len : (greedy C N).length = N := by rw [greedy_eq h, List.length_map]; exact (gfold_len C N C.length).2
theorem greedy_flat : (greedy C N).flatten.Perm (idx C.length) := by
  rw [greedy_eq h]
  refine (flat_ascd _).trans ((gfold_flat C (ca_parts h).2.1 C.length (by rw [ord_len]; exact Nat.le_refl _)).trans ?_)
  rw [List.take_of_length_le (by rw [ord_len]; exact Nat.le_refl _)]
  exact ordU_perm C C.length
theorem greedy_ck : ck C (greedy C N) = 0 := by
  refine ck_of (ca_parts h).1 (greedy_flat h) fun L hL => ?_
  have hnd : (greedy C N).flatten.Nodup := by
    rw [(greedy_flat h).nodup_iff]
    exact idx_nodup _
  have hL2 : L.Nodup := by
    obtain ⟨s, t, e⟩ := List.append_of_mem hL
    rw [e, List.flatten_append, List.flatten_cons, List.nodup_append, List.nodup_append] at hnd
    exact hnd.2.1.1
  have hL3 : L.Pairwise (· ≤ ·) := by
    rw [greedy_eq h] at hL
    obtain ⟨p, -, rfl⟩ := List.mem_map.1 hL
    exact ascd_sorted p
  have := List.Pairwise.and hL3 hL2
  exact this.imp fun ⟨h1, h2⟩ => by omega
theorem greedy_sums : sums C (greedy C N) = lds N (dsc C) := by
  unfold sums
  rw [greedy_eq h, List.map_map]
  have : (psum C ∘ ascd) = psum C := by funext p; exact psum_ascd C p
  rw [this, gfold_psum C N _ (by rw [ord_len]; exact Nat.le_refl _), gfold_lds, ord_costs, List.take_of_length_le (by rw [dsc_len]; exact Nat.le_refl _)]
theorem greedy_span : span C (greedy C N) = gmax (lds N (dsc C)) := by unfold span; rw [greedy_sums h]
end
theorem dsc_of_perm {L M : List Int} (p : L.Perm M) : dsc L = dsc M :=
  (((dsc_perm L).trans p).trans (dsc_perm M).symm).eq_of_pairwise (fun a b _ _ h1 h2 => by omega) (dsc_sorted L) (dsc_sorted M)
section
variable {C : List Int} {N : Nat} (h : ca C N = 0)
include h
theorem dsc_nonneg : ∀ c ∈ dsc C, 0 ≤ c := fun c hc => ((ca_parts h).2.2.2.2 c (mem_dsc hc)).1
theorem best_le_greedy : bestR N C [] ≤ span C (greedy C N) := by
  rw [greedy_span h]
  refine best_le (ca_parts h).2.1 (gmax_nonneg _) (fits_perm (dsc_perm C) _ _ (fits_lds (ca_parts h).2.1 fun x hx => le_gmax hx))
theorem quality : 3 * N * span C (greedy C N) ≤ (4 * N - 1) * bestR N C [] := by
  rw [greedy_span h]
  exact graham_max (ca_parts h).2.1 (dsc_sorted C) (dsc_nonneg h) (bestR_nonneg (ca_parts h).2.1 C []) (fits_perm (dsc_perm C).symm _ _ (best_fits (ca_parts h).2.1 C))
theorem lds_bd : ∀ x ∈ lds N (dsc C), 0 ≤ x ∧ x ≤ C.length * 1099511627776 := by
  intro x hx
  rw [← greedy_sums h] at hx
  unfold sums at hx
  obtain ⟨p, hp, rfl⟩ := List.mem_map.1 hx
  have h1 := psum_bd (ca_parts h).2.2.2.2 p
  have h2 := row_bd (greedy_ck h) hp
  omega
theorem span_bd : 0 ≤ span C (greedy C N) ∧ span C (greedy C N) ≤ C.length * 1099511627776 := by
  rw [greedy_span h]
  exact ⟨gmax_nonneg _, gmax_le (by omega) fun x hx => (lds_bd h x hx).2⟩
theorem least_le : least C N ≤ bestR N C [] := by
  obtain ⟨-, hn1, hn2, -, hc⟩ := ca_parts h
  have hf := fits_perm (dsc_perm C).symm _ _ (best_fits hn1 C)
  have h0 := dsc_nonneg h
  have hM := bestR_nonneg hn1 C []
  generalize bestR N C [] = M at *
  have t1 := fits_total hf
  rw [sum_perm (dsc_perm C)] at t1
  have m0 : (C.sum + N - 1) / (N : Int) ≤ M := by
    have : (C.sum + N - 1) / (N : Int) < M + 1 := by
      refine Int.ediv_lt_of_lt_mul (by omega) ?_
      rw [Int.add_mul, Int.one_mul, Int.mul_comm M]
      omega
    omega
  have m1 : ∀ j, (dsc C).getD j 0 ≤ M := by
    intro j
    rw [List.getD_eq_getElem?_getD]
    cases hj : (dsc C)[j]? with
    | none => simpa using hM
    | some x => exact fits_each h0 hf x (List.mem_of_getElem? hj)
  unfold least
  simp only []
  have m2 : (if C = [] then (C.sum + (N : Int) - 1) / (N : Int) else max ((C.sum + (N : Int) - 1) / (N : Int)) ((dsc C).getD 0 0)) ≤ M := by
    split
    · exact m0
    · have := m1 0; omega
  split
  · rename_i hlt
    have hl : N < (dsc C).length := by rw [dsc_len]; omega
    have hp := fits_pair (dsc_sorted C) h0 hn1 hl hf
    rw [Int.toNat_natCast, getD_at (show N - 1 < (dsc C).length by omega), getD_at hl]
    omega
  · exact m2
end
theorem fits_run : ∀ (q r V : List Int) (M : Int) (j : Nat), j < V.length → Fits r (V.set j (V.getD j 0 + q.sum)) M → Fits (q ++ r) V M
  | [], r, V, M, j, hj, h => by
    rw [List.sum_nil, Int.add_zero, getD_at hj, List.set_getElem_self] at h
    exact h
  | c :: q, r, V, M, j, hj, h => by
    refine ⟨j, hj, fits_run q r _ M j (by simpa using hj) ?_⟩
    rw [getD_set_same hj, List.set_set, Int.add_assoc, ← List.sum_cons]
    exact h
theorem fits_flat {M : Int} : ∀ (Q : List (List Int)) (j : Nat) (V : List Int), j + Q.length ≤ V.length → (∀ i, i < V.length → i < j → V.getD i 0 ≤ M) → (∀ i, i < V.length → j ≤ i → V.getD i 0 + (Q.getD (i - j) []).sum ≤ M) → Fits Q.flatten V M
  | [], j, V, _, h1, h2 => by
    intro x hx
    obtain ⟨i, hi, rfl⟩ := List.getElem_of_mem hx
    rw [← getD_at hi]
    rcases Nat.lt_or_ge i j with h | h
    · exact h1 i hi h
    · have := h2 i hi h; simpa using this
  | q :: Q, j, V, hl, h1, h2 => by
    simp only [List.length_cons] at hl
    rw [List.flatten_cons]
    refine fits_run q _ V M j (by omega) (fits_flat Q (j + 1) _ (by simp; omega) (fun i hi hij => ?_) fun i hi hij => ?_)
    · rw [List.length_set] at hi
      by_cases e : j = i
      · subst e
        rw [getD_set_same hi]
        have := h2 j hi (Nat.le_refl _)
        simpa using this
      · rw [getD_set_other e]; exact h1 i hi (by omega)
    · rw [List.length_set] at hi
      rw [getD_set_other (by omega)]
      have := h2 i hi (by omega)
      rw [show i - j = (i - (j + 1)) + 1 by omega, List.getD_cons_succ] at this
      exact this
theorem mark_back : ∀ (L : List Int) (S : List Bool) (j : Nat), (mark S L).getD j false = false → S.getD j false = false
  | [], _, _, h => h
  | x :: L, S, j, h => set_getD (mark_back L (S.set x.toNat true) j h)
theorem ckPs_apart {n : Nat} : ∀ (l : List (List Int)) (S S' : List Bool), S.length = n → ckPs n l S = (0, S') → l.flatten.Nodup ∧ ∀ i ∈ l.flatten, S.getD i.toNat false = false
  | [], S, S', _, _ => by simp
  | p :: r, S, S', hS, h => by
    simp only [ckPs] at h
    by_cases h0 : (ckP n none p S).1 = 0
    · rw [if_neg (by simpa using h0)] at h
      obtain ⟨a1, -, a3, a4, a5⟩ := ckP_ok p none S (ckP n none p S).2 (by rw [← h0])
      obtain ⟨b1, b2⟩ := ckPs_apart r _ _ (by rw [a4, mark_len]; exact hS) h
      rw [List.flatten_cons, List.nodup_append]
      refine ⟨⟨a3.imp fun h => by omega, b1, fun i hi j hj e => ?_⟩, fun i hi => ?_⟩
      · subst e
        have h1 := b2 i hj
        have h2 := a1 i hi
        rw [a4, mark_hit p S i hi (by omega)] at h1
        cases h1
      · rcases List.mem_append.1 hi with hi | hi
        · exact a5 i hi
        · have := b2 i hi
          rw [a4] at this
          exact mark_back p S _ this
    · rw [if_pos h0] at h
      rw [h] at h0
      exact absurd rfl h0
theorem ck_flat {C : List Int} {l : List (List Int)} (h : ck C l = 0) : l.flatten.Perm (idx C.length) := by
  obtain ⟨h0, h1, h2⟩ := ck_ok h
  have hnd : l.flatten.Nodup := by
    unfold ck at h
    rw [if_neg (by simpa using h0)] at h
    unfold fin at h
    by_cases h3 : (ckPs C.length l (List.replicate C.length false)).1 = 0
    · exact (ckPs_apart (n := C.length) l (List.replicate C.length false) (ckPs C.length l (List.replicate C.length false)).2 (List.length_replicate) (by rw [← h3])).1
    · rw [if_pos h3] at h; exact absurd h h3
  have hnd2 : (idx C.length).Nodup := by
    exact idx_nodup _
  rw [List.perm_ext_iff_of_nodup hnd hnd2]
  intro i
  unfold idx
  rw [List.mem_map]
  constructor
  · intro hi
    obtain ⟨L, hL, hiL⟩ := List.mem_flatten.1 hi
    have := (h1 L hL).1 i hiL
    exact ⟨i.toNat, List.mem_range.2 (by omega), by omega⟩
  · rintro ⟨j, hj, rfl⟩
    rw [List.mem_range] at hj
    by_cases hin : (j : Int) ∈ l.flatten
    · exact hin
    exfalso
    have hoff := mark_off l.flatten (List.replicate C.length false) j fun i hi e => by
      obtain ⟨L, hL, hiL⟩ := List.mem_flatten.1 hi
      have := (h1 L hL).1 i hiL
      exact hin (by rw [show (j : Int) = i by omega]; exact hi)
    have hf : (mark (List.replicate C.length false) l.flatten).getD j false = false := by
      rw [hoff, List.getD_eq_getElem?_getD, List.getElem?_replicate]; split <;> rfl
    have hjl : j < (mark (List.replicate C.length false) l.flatten).length := by rw [mark_len, List.length_replicate]; exact hj
    rw [List.getD_eq_getElem?_getD, List.getElem?_eq_getElem hjl] at hf
    rw [List.contains_eq_mem, decide_eq_false_iff_not] at h2
    have hf2 : (mark (List.replicate C.length false) l.flatten)[j] = false := by simpa using hf
    have hin2 := List.getElem_mem hjl
    rw [hf2] at hin2
    exact h2 hin2
theorem map_flat (C : List Int) : ∀ l : List (List Int), (l.map fun p => p.map (cst C)).flatten = l.flatten.map (cst C)
  | [] => rfl
  | p :: l => by simp only [List.map_cons, List.flatten_cons, List.map_append, map_flat C l]
theorem idx_cst (C : List Int) : (idx C.length).map (cst C) = C := by
  unfold idx
  rw [List.map_map]
  apply List.ext_getElem
  · simp
  · intro i h1 h2
    simp [cst, List.getD_eq_getElem?_getD, h2]
theorem best_le_span {C : List Int} {l : List (List Int)} (hn : 1 ≤ l.length) (h : ck C l = 0) : bestR l.length C [] ≤ span C l := by
  refine best_le hn (gmax_nonneg _) ?_
  have hp : (l.map fun p => p.map (cst C)).flatten.Perm C := by
    rw [map_flat]
    have := (ck_flat h).map (cst C)
    rwa [idx_cst] at this
  refine fits_perm hp _ _ (fits_flat _ 0 _ (by simp) (fun i _ hi => by omega) fun i hi _ => ?_)
  rw [List.length_replicate] at hi
  have e1 : (List.replicate l.length (0 : Int)).getD i 0 = 0 := by
    rw [List.getD_eq_getElem?_getD, List.getElem?_replicate]
    split <;> rfl
  have e2 : (l.map fun p => p.map (cst C)).getD (i - 0) [] = l[i].map (cst C) := by simp [List.getD_eq_getElem?_getD, hi]
  rw [e1, e2, Int.zero_add]
  exact le_gmax (List.mem_map.2 ⟨l[i], List.getElem_mem hi, rfl⟩)
end Go.Proofs.Ytejipflkdigbbaa
