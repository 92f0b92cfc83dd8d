/- Plain: divisions, and the least span. -/
import Derived.Test.YtejipflkdigbbaaPure5
namespace Go.Proofs.Ytejipflkdigbbaa

/-- Costs can be added to loads, each to some one, so that no load exceeds a bound. -/
def Fits : List Int → List Int → Int → Prop
  | [], V, M => ∀ x ∈ V, x ≤ M
  | c :: C, V, M => ∃ j, j < V.length ∧ Fits C (V.set j (V.getD j 0 + c)) M

theorem getD_set_same {V : List Int} {j : Nat} (hj : j < V.length) (x : Int) : (V.set j x).getD j 0 = x := by simp [List.getD_eq_getElem?_getD, hj]
theorem getD_set_other {V : List Int} {j k : Nat} (h : j ≠ k) (x : Int) : (V.set j x).getD k 0 = V.getD k 0 := by simp [List.getD_eq_getElem?_getD, List.getElem?_set_ne h]
theorem getD_at {V : List Int} {j : Nat} (hj : j < V.length) : V.getD j 0 = V[j] := by simp [List.getD_eq_getElem?_getD, hj]
theorem fits_swap {c d : Int} {C V : List Int} {M : Int} (h : Fits (c :: d :: C) V M) : Fits (d :: c :: C) V M := by
  obtain ⟨j, hj, k, hk, h⟩ := h
  rw [List.length_set] at hk
  by_cases e : j = k
  · subst e
    refine ⟨j, hj, j, by rw [List.length_set]; exact hj, ?_⟩
    rw [getD_set_same hj, List.set_set] at h ⊢
    rw [show V.getD j 0 + d + c = V.getD j 0 + c + d by omega]
    exact h
  · refine ⟨k, hk, j, by rw [List.length_set]; exact hj, ?_⟩
    rw [getD_set_other e, List.set_comm _ _ e] at h
    rw [getD_set_other (Ne.symm e)]
    exact h
theorem fits_perm {C D : List Int} (p : C.Perm D) : ∀ V M, Fits C V M → Fits D V M := by
  induction p with
  | nil => intro V M h; exact h
  | cons x _ ih => intro V M h; obtain ⟨j, hj, h⟩ := h; exact ⟨j, hj, ih _ _ h⟩
  | swap x y l => intro V M h; exact fits_swap h
  | trans _ _ ih1 ih2 => intro V M h; exact ih2 _ _ (ih1 _ _ h)
theorem fits_le : ∀ (C V : List Int) (M : Int), (∀ c ∈ C, 0 ≤ c) → Fits C V M → ∀ i, i < V.length → V.getD i 0 ≤ M
  | [], V, M, _, h, i, hi => by rw [getD_at hi]; exact h _ (List.getElem_mem hi)
  | c :: C, V, M, hc, h, i, hi => by
    obtain ⟨j, hj, h⟩ := h
    have h1 := fits_le C _ M (fun d hd => hc d (by simp [hd])) h i (by rw [List.length_set]; exact hi)
    have h0 := hc c (by simp)
    by_cases e : j = i
    · subst e
      rw [getD_set_same hj] at h1
      omega
    · rw [getD_set_other e] at h1
      exact h1
theorem fits_front : ∀ (C D V : List Int) (M : Int), (∀ c ∈ D, 0 ≤ c) → Fits (C ++ D) V M → Fits C V M
  | [], D, V, M, hd, h => fun x hx => by
    obtain ⟨i, hi, rfl⟩ := List.getElem_of_mem hx
    have := fits_le D V M hd h i hi
    rwa [getD_at hi] at this
  | c :: C, D, V, M, hd, h => by
    obtain ⟨j, hj, h⟩ := h
    exact ⟨j, hj, fits_front C D _ M hd h⟩
theorem flat_set (c : Int) : ∀ (Q : List (List Int)) (j : Nat), j < Q.length → (Q.set j (c :: Q.getD j [])).flatten.Perm (c :: Q.flatten)
  | [], j, h => by simp at h
  | q :: Q, 0, _ => by simp
  | q :: Q, j + 1, h => by
    have ih := flat_set c Q j (by simpa using h)
    simp only [List.set_cons_succ, List.getD_cons_succ, List.flatten_cons]
    exact (List.Perm.append_left q ih).trans List.perm_middle
theorem flat_snoc (c : Int) : ∀ (Q : List (List Int)) (j : Nat), j < Q.length → (Q.set j (Q.getD j [] ++ [c])).flatten.Perm (c :: Q.flatten)
  | [], j, h => by simp at h
  | q :: Q, 0, _ => by
    simp only [List.set_cons_zero, List.getD_cons_zero, List.flatten_cons, List.append_assoc, List.singleton_append]
    exact List.perm_middle
  | q :: Q, j + 1, h => by
    have ih := flat_snoc c Q j (by simpa using h)
    simp only [List.set_cons_succ, List.getD_cons_succ, List.flatten_cons]
    exact (List.Perm.append_left q ih).trans List.perm_middle
theorem fits_div : ∀ (C V : List Int) (M : Int), Fits C V M → ∃ Q : List (List Int), Q.length = V.length ∧ Q.flatten.Perm C ∧ ∀ i, i < V.length → V.getD i 0 + (Q.getD i []).sum ≤ M
  | [], V, M, h => ⟨List.replicate V.length [], by simp, by simp, fun i hi => by
      have h1 := h V[i] (List.getElem_mem hi)
      rw [getD_at hi]
      simp [List.getD_eq_getElem?_getD, hi]
      exact h1⟩
  | c :: C, V, M, h => by
    obtain ⟨j, hj, h⟩ := h
    obtain ⟨Q, h1, h2, h3⟩ := fits_div C _ M h
    rw [List.length_set] at h1 h3
    refine ⟨Q.set j (c :: Q.getD j []), by simpa using h1, (flat_set c Q j (by omega)).trans (h2.cons c), fun i hi => ?_⟩
    have h4 := h3 i hi
    by_cases e : j = i
    · subst e
      rw [getD_set_same hj] at h4
      have : (Q.set j (c :: Q.getD j [])).getD j [] = c :: Q.getD j [] := by simp [List.getD_eq_getElem?_getD, show j < Q.length by omega]
      rw [this, List.sum_cons]
      omega
    · rw [getD_set_other e] at h4
      have : (Q.set j (c :: Q.getD j [])).getD i [] = Q.getD i [] := by simp [List.getD_eq_getElem?_getD, List.getElem?_set_ne e]
      rw [this]
      exact h4
theorem set_perm (y : Int) : ∀ (V : List Int) (j : Nat), j < V.length → (V.set j y).Perm (y :: V.eraseIdx j)
  | [], j, h => by simp at h
  | x :: V, 0, _ => by simp
  | x :: V, j + 1, h => by
    simp only [List.set_cons_succ, List.eraseIdx_cons_succ]
    exact ((set_perm y V j (by simpa using h)).cons x).trans (List.Perm.swap y x _)
theorem self_perm (V : List Int) (j : Nat) (h : j < V.length) : V.Perm (V[j] :: V.eraseIdx j) := by
  have := set_perm V[j] V j h
  rwa [List.set_getElem_self] at this
theorem opt_mem {c : Int} {S : List Int} {n k : Nat} (h : k < wys S n) : opt c S k ∈ opts c S n := by
  unfold opts
  exact List.mem_map.2 ⟨k, List.mem_range.2 h, rfl⟩
theorem leaves_of_fits {n : Nat} : ∀ (C V S : List Int) (M : Int), Fits C V M → S.length ≤ n → V.Perm (S ++ List.replicate (n - S.length) 0) → ∃ T ∈ leaves n C S, ∀ x ∈ T, x ≤ M
  | [], V, S, M, h, hs, hp => ⟨S, by simp [leaves], fun x hx => h x (hp.mem_iff.2 (by simp [hx]))⟩
  | c :: C, V, S, M, h, hs, hp => by
    obtain ⟨j, hj, h⟩ := h
    have p1 := self_perm V j hj
    have p2 := set_perm (V.getD j 0 + c) V j hj
    by_cases hm : V[j] ∈ S
    · obtain ⟨k, hk, e⟩ := List.getElem_of_mem hm
      have q : (V.eraseIdx j).Perm (S.eraseIdx k ++ List.replicate (n - S.length) 0) := by
        have := (p1.symm.trans hp).trans ((self_perm S k hk).append_right _)
        rw [e] at this
        exact this.cons_inv
      have hsk : (S.set k (S.getD k 0 + c)).Perm ((S.getD k 0 + c) :: S.eraseIdx k) := set_perm _ S k hk
      have ev : V.getD j 0 = S.getD k 0 := by rw [getD_at hj, getD_at hk, e]
      obtain ⟨T, hT, hx⟩ := leaves_of_fits C _ (S.set k (S.getD k 0 + c)) M h (by simpa using hs) (by
        rw [List.length_set]
        refine p2.trans ?_
        rw [ev]
        exact (q.cons _).trans ((hsk.append_right _).symm))
      refine ⟨T, ?_, hx⟩
      simp only [leaves, List.mem_flatMap]
      refine ⟨opt c S k, opt_mem (by unfold wys; split <;> omega), ?_⟩
      unfold opt
      rw [if_pos hk]
      exact hT
    · have hz : V[j] ∈ S ++ List.replicate (n - S.length) 0 := hp.mem_iff.1 (List.getElem_mem hj)
      rcases List.mem_append.1 hz with hz | hz
      · exact absurd hz hm
      obtain ⟨hz1, hz2⟩ := List.mem_replicate.1 hz
      have hlt : S.length < n := by omega
      have er : List.replicate (n - S.length) (0 : Int) = 0 :: List.replicate (n - (S.length + 1)) 0 := by
        rw [show n - S.length = (n - (S.length + 1)) + 1 by omega, List.replicate_succ]
      have q : (V.eraseIdx j).Perm (S ++ List.replicate (n - (S.length + 1)) 0) := by
        have := p1.symm.trans hp
        rw [hz2, er] at this
        exact (this.trans List.perm_middle).cons_inv
      obtain ⟨T, hT, hx⟩ := leaves_of_fits (n := n) C _ (S ++ [c]) M h (by simp; omega) (by
        refine p2.trans ?_
        rw [getD_at hj, hz2, Int.zero_add, List.length_append, List.length_singleton, List.append_assoc, List.singleton_append]
        exact (q.cons c).trans List.perm_middle.symm)
      refine ⟨T, ?_, hx⟩
      simp only [leaves, List.mem_flatMap]
      refine ⟨opt c S S.length, opt_mem (by unfold wys; rw [if_pos hlt]; omega), ?_⟩
      unfold opt
      rw [if_neg (Nat.lt_irrefl _)]
      exact hT
theorem fits_of_leaf {n : Nat} : ∀ (C S T : List Int) (M : Int), T ∈ leaves n C S → S.length ≤ n → (∀ x ∈ T, x ≤ M) → 0 ≤ M → Fits C (S ++ List.replicate (n - S.length) 0) M
  | [], S, T, M, hT, hs, hx, h0 => by
    simp only [leaves, List.mem_singleton] at hT
    subst hT
    intro x hm
    rcases List.mem_append.1 hm with hm | hm
    · exact hx x hm
    · rw [(List.mem_replicate.1 hm).2]; exact h0
  | c :: C, S, T, M, hT, hs, hx, h0 => by
    simp only [leaves, List.mem_flatMap] at hT
    obtain ⟨o, ho, hT⟩ := hT
    unfold opts at ho
    obtain ⟨k, hk, rfl⟩ := List.mem_map.1 ho
    rw [List.mem_range] at hk
    by_cases hlt : k < S.length
    · have e : opt c S k = S.set k (S.getD k 0 + c) := by unfold opt; rw [if_pos hlt]
      rw [e] at hT
      have h1 := fits_of_leaf C _ T M hT (by simpa using hs) hx h0
      refine ⟨k, by simp; omega, ?_⟩
      rw [List.length_set] at h1
      rw [List.set_append_left _ _ hlt]
      have : (S ++ List.replicate (n - S.length) 0).getD k 0 = S.getD k 0 := by simp [List.getD_eq_getElem?_getD, List.getElem?_append_left hlt]
      rw [this]
      exact h1
    · have e : opt c S k = S ++ [c] := by unfold opt; rw [if_neg hlt]
      have hn : S.length < n := by
        split at hk
        · assumption
        · omega
      rw [e] at hT
      have h1 := fits_of_leaf C _ T M hT (by simp; omega) hx h0
      refine ⟨S.length, by simp; omega, ?_⟩
      have er : List.replicate (n - S.length) (0 : Int) = 0 :: List.replicate (n - (S.length + 1)) 0 := by
        rw [show n - S.length = (n - (S.length + 1)) + 1 by omega, List.replicate_succ]
      have : (S ++ List.replicate (n - S.length) 0).getD S.length 0 = 0 := by rw [er]; simp [List.getD_eq_getElem?_getD]
      rw [this, Int.zero_add, er, List.set_append_right _ _ (Nat.le_refl _), Nat.sub_self, List.set_cons_zero]
      rw [List.length_append, List.length_singleton, List.append_assoc, List.singleton_append] at h1
      exact h1
theorem mn_ge : ∀ (xs : List Int) (b : Int), 0 ≤ b → (∀ x ∈ xs, 0 ≤ x) → mn b xs ≤ b ∧ ∀ x ∈ xs, mn b xs ≤ x
  | [], b, _, _ => ⟨Int.le_refl _, fun x hx => by simp at hx⟩
  | y :: xs, b, hb, h => by
    have hy := h y (by simp)
    have h1 := mn_ge xs (upd1 b y) (upd1_nonneg hy) fun z hz => h z (by simp [hz])
    have e : mn b (y :: xs) = mn (upd1 b y) xs := rfl
    rw [e]
    have h2 : upd1 b y ≤ b ∧ upd1 b y ≤ y := by unfold upd1; split <;> omega
    refine ⟨by omega, fun x hx => ?_⟩
    rcases List.mem_cons.1 hx with rfl | hx
    · omega
    · exact h1.2 x hx
theorem mn_mem : ∀ (xs : List Int) (b : Int), mn b xs = b ∨ mn b xs ∈ xs
  | [], b => .inl rfl
  | y :: xs, b => by
    have e : mn b (y :: xs) = mn (upd1 b y) xs := rfl
    rw [e]
    rcases mn_mem xs (upd1 b y) with h | h
    · rw [h]
      unfold upd1
      split
      · exact .inr (by simp)
      · exact .inl rfl
    · exact .inr (List.mem_cons_of_mem _ h)
theorem mn_first (x : Int) (xs : List Int) : mn (-1) (x :: xs) = mn x xs := by
  show mn (upd1 (-1) x) xs = _
  simp [upd1]
theorem gmax_le {L : List Int} {M : Int} (h0 : 0 ≤ M) (h : ∀ x ∈ L, x ≤ M) : gmax L ≤ M := by
  unfold gmax
  suffices ∀ (L : List Int) (a : Int), a ≤ M → (∀ x ∈ L, x ≤ M) → L.foldl max a ≤ M from this L 0 h0 h
  intro L
  induction L with
  | nil => intro a ha _; exact ha
  | cons x L ih => intro a ha h; exact ih _ (by have := h x (by simp); omega) fun y hy => h y (by simp [hy])
theorem le_gmax {L : List Int} {x : Int} (h : x ∈ L) : x ≤ gmax L := by
  unfold gmax
  suffices ∀ (L : List Int) (a : Int), x ∈ L → x ≤ L.foldl max a from this L 0 h
  intro L
  induction L with
  | nil => intro a h; simp at h
  | cons y L ih =>
    intro a h
    rcases List.mem_cons.1 h with rfl | h
    · have := foldl_max_le L (max a x); simp only [List.foldl_cons]; omega
    · exact ih _ h
theorem best_fits {n : Nat} (hn : 1 ≤ n) (C : List Int) : Fits C (List.replicate n 0) (bestR n C []) := by
  have e := bestR_eq hn C []
  have hne := leaves_ne hn C []
  obtain ⟨T, Ts, eT⟩ : ∃ T Ts, leaves n C [] = T :: Ts := by
    cases h : leaves n C [] with
    | nil => exact absurd h hne
    | cons o os => exact ⟨o, os, rfl⟩
  have hm : ∃ T ∈ leaves n C [], gmax T = bestR n C [] := by
    rw [e, eT, List.map_cons, mn_first]
    rcases mn_mem (Ts.map gmax) (gmax T) with h | h
    · exact ⟨T, by simp, h.symm⟩
    · obtain ⟨U, hU, hu⟩ := List.mem_map.1 h
      exact ⟨U, by simp [hU], hu⟩
  obtain ⟨U, hU, hu⟩ := hm
  have := fits_of_leaf (n := n) C [] U (bestR n C []) hU (by simp) (fun x hx => by rw [← hu]; exact le_gmax hx) (bestR_nonneg hn C [])
  simpa using this
theorem best_le {n : Nat} (hn : 1 ≤ n) {C : List Int} {M : Int} (h0 : 0 ≤ M) (h : Fits C (List.replicate n 0) M) : bestR n C [] ≤ M := by
  obtain ⟨T, hT, hx⟩ := leaves_of_fits (n := n) C _ [] M h (by simp) (by simp)
  rw [bestR_eq hn]
  have hg := gmax_le h0 hx
  have hmem : gmax T ∈ (leaves n C []).map gmax := List.mem_map.2 ⟨T, hT, rfl⟩
  cases hl : (leaves n C []).map gmax with
  | nil => rw [hl] at hmem; simp at hmem
  | cons y ys =>
    have hnn : ∀ z ∈ y :: ys, 0 ≤ z := by
      intro z hz
      rw [← hl] at hz
      obtain ⟨U, -, rfl⟩ := List.mem_map.1 hz
      exact gmax_nonneg U
    rw [mn_first]
    have h1 := mn_ge ys y (hnn y (by simp)) fun z hz => hnn z (by simp [hz])
    rw [hl] at hmem
    rcases List.mem_cons.1 hmem with h | h
    · omega
    · have := h1.2 _ h; omega
theorem best_perm {n : Nat} (hn : 1 ≤ n) {C D : List Int} (p : C.Perm D) : bestR n C [] = bestR n D [] := by
  have h1 := best_le hn (bestR_nonneg hn C []) (fits_perm p _ _ (best_fits hn C))
  have h2 := best_le hn (bestR_nonneg hn D []) (fits_perm p.symm _ _ (best_fits hn D))
  omega
end Go.Proofs.Ytejipflkdigbbaa
