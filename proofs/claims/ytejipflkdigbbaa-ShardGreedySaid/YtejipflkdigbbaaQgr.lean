/- Plain: what is known of Greedy's loads. -/
import Derived.Test.YtejipflkdigbbaaQfit
import Derived.Test.YtejipflkdigbbaaGpl
namespace Go.Proofs.Ytejipflkdigbbaa

def ldstep (S : List Int) (c : Int) : List Int := S.set (lp S) (S.getD (lp S) 0 + c)
/-- Greedy's loads over a list of costs. -/
def lds (n : Nat) (J : List Int) : List Int := J.foldl ldstep (List.replicate n 0)
theorem lds_snoc (n : Nat) (J : List Int) (c : Int) : lds n (J ++ [c]) = (lds n J).set (lp (lds n J)) ((lds n J).getD (lp (lds n J)) 0 + c) := by
  unfold lds
  rw [List.foldl_append]
  rfl
theorem ldfold_len : ∀ (J S : List Int), (J.foldl ldstep S).length = S.length
  | [], _ => rfl
  | c :: J, S => by rw [List.foldl_cons, ldfold_len J]; simp [ldstep]
theorem lds_len (n : Nat) (J : List Int) : (lds n J).length = n := by unfold lds; rw [ldfold_len]; simp
theorem gfold_lds (C : List Int) (n k : Nat) : (gfold C n k).1 = lds n (((ord C).map (cst C)).take k) := by
  unfold gfold lds
  rw [← List.map_take]
  generalize (ord C).take k = l
  suffices ∀ (l : List Int) (st : List Int × List (List Int)), (l.foldl (gstep C) st).1 = (l.map (cst C)).foldl ldstep st.1 from this l _
  intro l
  induction l with
  | nil => intro st; rfl
  | cons i l ih => intro st; rw [List.foldl_cons, ih, List.map_cons, List.foldl_cons]; rfl
theorem sum_flat : ∀ Q : List (List Int), (Q.map List.sum).sum = Q.flatten.sum
  | [] => rfl
  | q :: Q => by simp [sum_flat Q]
theorem getD_map_sum (Q : List (List Int)) (j : Nat) : (Q.map List.sum).getD j 0 = (Q.getD j []).sum := by
  simp only [List.getD_eq_getElem?_getD, List.getElem?_map]
  cases Q[j]? <;> simp
theorem lds_div {n : Nat} (hn : 1 ≤ n) (J : List Int) : ∃ Q : List (List Int), Q.length = n ∧ Q.flatten.Perm J ∧ Q.map List.sum = lds n J := by
  suffices ∀ (J : List Int) (Q : List (List Int)), Q.length = n → ∃ Q' : List (List Int), Q'.length = n ∧ Q'.flatten.Perm (J ++ Q.flatten) ∧ Q'.map List.sum = J.foldl ldstep (Q.map List.sum) by
    obtain ⟨Q, h1, h2, h3⟩ := this J (List.replicate n []) (by simp)
    exact ⟨Q, h1, by simpa using h2, by rw [h3]; unfold lds; simp⟩
  intro J
  induction J with
  | nil => intro Q h; exact ⟨Q, h, by simp, rfl⟩
  | cons c J ih =>
    intro Q h
    have hne : Q.map List.sum ≠ [] := by intro e; have := congrArg List.length e; simp [h] at this; omega
    have hl := lp_lt hne
    rw [List.length_map] at hl
    obtain ⟨Q', h1, h2, h3⟩ := ih (Q.set (lp (Q.map List.sum)) (c :: Q.getD (lp (Q.map List.sum)) [])) (by simpa using h)
    refine ⟨Q', h1, ?_, ?_⟩
    · refine h2.trans ?_
      refine (List.Perm.append_left J (flat_set c Q _ hl)).trans ?_
      exact List.perm_middle
    · rw [h3, List.foldl_cons, List.map_set]
      unfold ldstep
      rw [List.sum_cons, getD_map_sum, Int.add_comm]
theorem fits_lds {n : Nat} (hn : 1 ≤ n) {J : List Int} {M : Int} (h : ∀ x ∈ lds n J, x ≤ M) : Fits J (List.replicate n 0) M := by
  suffices ∀ (J V : List Int), V ≠ [] → (∀ x ∈ J.foldl ldstep V, x ≤ M) → Fits J V M from this J _ (by intro e; have := congrArg List.length e; simp at this; omega) h
  intro J
  induction J with
  | nil => intro V _ h; exact h
  | cons c J ih =>
    intro V hV h
    exact ⟨lp V, lp_lt hV, ih _ (by intro e; have := congrArg List.length e; simp at this; exact hV this) h⟩
/-- The weight of a cost: two if no other can stand beside it. -/
def wt (b c : Int) : Int := if b < c then 2 else 1
def wts (b : Int) (q : List Int) : Int := (q.map (wt b)).sum
theorem wt_pos (b c : Int) : 1 ≤ wt b c := by unfold wt; split <;> omega
theorem wts_nonneg (b : Int) : ∀ q : List Int, 0 ≤ wts b q
  | [] => by simp [wts]
  | c :: q => by
    have h1 := wts_nonneg b q
    have h2 := wt_pos b c
    unfold wts at *
    simp only [List.map_cons, List.sum_cons]
    omega
theorem sum_nonneg : ∀ q : List Int, (∀ c ∈ q, 0 ≤ c) → 0 ≤ q.sum
  | [], _ => by simp
  | c :: q, h => by
    have h1 := sum_nonneg q fun d hd => h d (by simp [hd])
    have h2 := h c (by simp)
    simp only [List.sum_cons]
    omega
theorem wts_le {p M : Int} {q : List Int} (hp0 : 0 ≤ p) (hp : ∀ c ∈ q, p ≤ c) (h3 : M < 3 * p) (hs : q.sum ≤ M) : wts (M - p) q ≤ 2 := by
  match q, hp, hs with
  | [], _, _ => simp [wts]
  | [a], _, _ => simp only [wts, List.map_cons, List.map_nil, List.sum_cons, List.sum_nil]; unfold wt; split <;> omega
  | [a, b], hp, hs =>
    have h1 := hp a (by simp)
    have h2 := hp b (by simp)
    simp only [List.sum_cons, List.sum_nil] at hs
    simp only [wts, List.map_cons, List.map_nil, List.sum_cons, List.sum_nil, wt]
    rw [if_neg (by omega), if_neg (by omega)]
    omega
  | a :: b :: c :: r, hp, hs =>
    have h1 := hp a (by simp)
    have h2 := hp b (by simp)
    have h4 := hp c (by simp)
    have h5 := sum_nonneg r fun d hd => by have := hp d (by simp [hd]); omega
    simp only [List.sum_cons] at hs
    omega
theorem wts_ge {p M : Int} {q : List Int} (hp : p ≤ M) (hs : M - p < q.sum) : 2 ≤ wts (M - p) q := by
  match q, hs with
  | [], hs => simp at hs; omega
  | [a], hs =>
    simp only [List.sum_cons, List.sum_nil] at hs
    simp only [wts, List.map_cons, List.map_nil, List.sum_cons, List.sum_nil, wt]
    rw [if_pos (by omega)]
    omega
  | a :: b :: r, hs =>
    have h1 := wt_pos (M - p) a
    have h2 := wt_pos (M - p) b
    have h3 := wts_nonneg (M - p) r
    unfold wts at *
    simp only [List.map_cons, List.sum_cons]
    omega
theorem wts_flat (b : Int) : ∀ Q : List (List Int), (Q.map (wts b)).sum = wts b Q.flatten
  | [] => by simp [wts]
  | q :: Q => by
    have := wts_flat b Q
    unfold wts at *
    simp [this]
theorem isum_perm {L M : List Int} (h : L.Perm M) : L.sum = M.sum := by
  induction h with
  | nil => rfl
  | cons x _ ih => simp [ih]
  | swap x y l => simp; omega
  | trans _ _ a b => rw [a, b]
theorem wts_perm {b : Int} {L M : List Int} (h : L.Perm M) : wts b L = wts b M := isum_perm (h.map _)
theorem sum_upto {m : Int} : ∀ xs : List Int, (∀ x ∈ xs, x ≤ m) → xs.sum ≤ xs.length * m
  | [], _ => by simp
  | x :: xs, h => by
    have h1 := sum_upto xs fun y hy => h y (by simp [hy])
    have h2 := h x (by simp)
    simp only [List.sum_cons, List.length_cons]
    have : ((xs.length + 1 : Nat) : Int) * m = xs.length * m + m := by
      rw [Int.natCast_add, Int.add_mul]; simp
    omega
theorem sum_from {m : Int} : ∀ xs : List Int, (∀ x ∈ xs, m ≤ x) → xs.length * m ≤ xs.sum
  | [], _ => by simp
  | x :: xs, h => by
    have h1 := sum_from xs fun y hy => h y (by simp [hy])
    have h2 := h x (by simp)
    simp only [List.sum_cons, List.length_cons]
    have : ((xs.length + 1 : Nat) : Int) * m = xs.length * m + m := by
      rw [Int.natCast_add, Int.add_mul]; simp
    omega
theorem fits_parts {n : Nat} {J : List Int} {M : Int} (hf : Fits J (List.replicate n 0) M) : ∃ Q : List (List Int), Q.length = n ∧ Q.flatten.Perm J ∧ ∀ q ∈ Q, q.sum ≤ M := by
  obtain ⟨Q, h1, h2, h3⟩ := fits_div _ _ _ hf
  rw [List.length_replicate] at h1
  refine ⟨Q, h1, h2, fun q hq => ?_⟩
  obtain ⟨i, hi, rfl⟩ := List.getElem_of_mem hq
  have h4 := h3 i (by simpa using by omega)
  have e1 : (List.replicate n (0 : Int)).getD i 0 = 0 := by
    rw [List.getD_eq_getElem?_getD, List.getElem?_replicate]
    split <;> rfl
  have e2 : Q.getD i [] = Q[i] := by simp [List.getD_eq_getElem?_getD, hi]
  rw [e1, e2] at h4
  omega
theorem part_sum_ge {q : List Int} (h0 : ∀ c ∈ q, 0 ≤ c) {c : Int} (hc : c ∈ q) : c ≤ q.sum := by
  induction q with
  | nil => simp at hc
  | cons x q ih =>
    have h1 := sum_nonneg q fun d hd => h0 d (by simp [hd])
    have h2 := h0 x (by simp)
    simp only [List.sum_cons]
    rcases List.mem_cons.1 hc with rfl | hc
    · omega
    · have := ih (fun d hd => h0 d (by simp [hd])) hc; omega
theorem fits_each {n : Nat} {J : List Int} {M : Int} (h0 : ∀ c ∈ J, 0 ≤ c) (hf : Fits J (List.replicate n 0) M) : ∀ c ∈ J, c ≤ M := by
  obtain ⟨Q, -, h2, h3⟩ := fits_parts hf
  intro c hc
  obtain ⟨q, hq, hcq⟩ := List.mem_flatten.1 (h2.mem_iff.2 hc)
  have := part_sum_ge (q := q) (fun d hd => h0 d (h2.mem_iff.1 (List.mem_flatten.2 ⟨q, hq, hd⟩))) hcq
  have := h3 q hq
  omega
theorem fits_total {n : Nat} {J : List Int} {M : Int} (hf : Fits J (List.replicate n 0) M) : J.sum ≤ n * M := by
  obtain ⟨Q, h1, h2, h3⟩ := fits_parts hf
  have := sum_upto (m := M) (Q.map List.sum) fun x hx => by obtain ⟨q, hq, rfl⟩ := List.mem_map.1 hx; exact h3 q hq
  rw [sum_flat, isum_perm h2, List.length_map, h1] at this
  exact this
theorem graham_step {n : Nat} (hn : 1 ≤ n) {J : List Int} {p M : Int} (hJ : ∀ c ∈ J, p ≤ c) (hp : 0 ≤ p) (hM : 0 ≤ M) (hf : Fits (J ++ [p]) (List.replicate n 0) M) :
    3 * n * ((lds n J).getD (lp (lds n J)) 0 + p) ≤ (4 * n - 1) * M := by
  obtain ⟨G, g1, g2, g3⟩ := lds_div hn J
  have hne : lds n J ≠ [] := by intro e; have := lds_len n J; rw [e] at this; simp at this; omega
  have hmin : ∀ x ∈ lds n J, (lds n J).getD (lp (lds n J)) 0 ≤ x := by
    intro x hx
    obtain ⟨i, hi, rfl⟩ := List.getElem_of_mem hx
    have := lp_le hne hi
    rwa [getD_at hi] at this
  have hall : ∀ c ∈ J ++ [p], 0 ≤ c := by
    intro c hc
    rcases List.mem_append.1 hc with h | h
    · have := hJ c h; omega
    · simp at h; omega
  generalize (lds n J).getD (lp (lds n J)) 0 = m at *
  have hn1 : (1 : Int) ≤ (n : Int) := by omega
  by_cases h3 : 3 * p ≤ M
  · have t1 := fits_total hf
    have t2 := sum_from (m := m) (lds n J) hmin
    rw [lds_len, ← g3, sum_flat, isum_perm g2] at t2
    rw [List.sum_append, List.sum_cons, List.sum_nil] at t1
    have t3 : ((n : Int) - 1) * (3 * p) ≤ ((n : Int) - 1) * M := Int.mul_le_mul_of_nonneg_left h3 (by omega)
    have e1 : ((n : Int) - 1) * (3 * p) = 3 * (n * p) - 3 * p := by rw [Int.sub_mul, Int.one_mul, Int.mul_left_comm]
    have e2 : ((n : Int) - 1) * M = n * M - M := by rw [Int.sub_mul, Int.one_mul]
    have e3 : 3 * (n : Int) * (m + p) = 3 * (n * m) + 3 * (n * p) := by rw [Int.mul_assoc, Int.mul_add, Int.mul_add]
    have e4 : (4 * (n : Int) - 1) * M = 4 * (n * M) - M := by rw [Int.sub_mul, Int.one_mul, Int.mul_assoc]
    rw [e1, e2] at t3
    rw [e3, e4]
    generalize (n : Int) * p = x1 at *
    generalize (n : Int) * m = x2 at *
    generalize (n : Int) * M = x3 at *
    omega
  · have key : m + p ≤ M := by
      by_cases hlt : m + p ≤ M
      · exact hlt
      exfalso
      obtain ⟨Q, q1, q2, q3⟩ := fits_parts hf
      have hpM : p ≤ M := fits_each hall hf p (by simp)
      have a1 := sum_from (m := 2) (G.map (wts (M - p))) fun x hx => by
        obtain ⟨g, hg, rfl⟩ := List.mem_map.1 hx
        refine wts_ge hpM ?_
        have := hmin g.sum (by rw [← g3]; exact List.mem_map.2 ⟨g, hg, rfl⟩)
        omega
      have a2 := sum_upto (m := 2) (Q.map (wts (M - p))) fun x hx => by
        obtain ⟨q, hq, rfl⟩ := List.mem_map.1 hx
        refine wts_le hp (fun c hc => ?_) (by omega) (q3 q hq)
        have := q2.mem_iff.1 (List.mem_flatten.2 ⟨q, hq, hc⟩)
        rcases List.mem_append.1 this with h | h
        · exact hJ c h
        · simp at h; omega
      rw [wts_flat, wts_perm g2, List.length_map, g1] at a1
      rw [wts_flat, wts_perm q2, List.length_map, q1] at a2
      have a3 : wts (M - p) (J ++ [p]) = wts (M - p) J + wt (M - p) p := by simp [wts]
      have a4 := wt_pos (M - p) p
      omega
    have t1 : (n : Int) * (m + p) ≤ n * M := Int.mul_le_mul_of_nonneg_left key (by omega)
    have t2 : 1 * M ≤ (n : Int) * M := Int.mul_le_mul_of_nonneg_right hn1 hM
    have e3 : 3 * (n : Int) * (m + p) = 3 * (n * (m + p)) := by rw [Int.mul_assoc]
    have e4 : (4 * (n : Int) - 1) * M = 4 * (n * M) - M := by rw [Int.sub_mul, Int.one_mul, Int.mul_assoc]
    rw [e3, e4]
    generalize (n : Int) * (m + p) = x1 at *
    generalize (n : Int) * M = x2 at *
    omega
theorem graham {n : Nat} (hn : 1 ≤ n) {J : List Int} {M : Int} (hs : J.Pairwise fun a b => b ≤ a) (h0 : ∀ c ∈ J, 0 ≤ c) (hM : 0 ≤ M) (hf : Fits J (List.replicate n 0) M) : ∀ k, k ≤ J.length → ∀ x ∈ lds n (J.take k), 3 * n * x ≤ (4 * n - 1) * M := by
  intro k
  induction k with
  | zero =>
    intro _ x hx
    have : x = 0 := by simp [lds] at hx; exact hx.2
    subst this
    rw [Int.mul_zero]
    exact Int.mul_nonneg (by omega) hM
  | succ k ih =>
    intro hk x hx
    rw [List.take_succ_eq_append_getElem (by omega), lds_snoc] at hx
    rcases List.mem_or_eq_of_mem_set hx with h | h
    · exact ih (by omega) x h
    · rw [h]
      refine graham_step hn (fun c hc => ?_) (h0 _ (List.getElem_mem _)) hM ?_
      · obtain ⟨i, hi, rfl⟩ := List.getElem_of_mem hc
        rw [List.length_take] at hi
        rw [List.getElem_take]
        exact List.pairwise_iff_getElem.1 hs i k (by omega) (by omega) (by omega)
      · refine fits_front _ (J.drop (k + 1)) _ _ (fun c hc => h0 c (List.mem_of_mem_drop hc)) ?_
        rw [← List.take_succ_eq_append_getElem (by omega), List.take_append_drop]
        exact hf
theorem gmax_in (L : List Int) : gmax L = 0 ∨ gmax L ∈ L := by
  unfold gmax
  suffices ∀ (L : List Int) (a : Int), L.foldl max a = a ∨ L.foldl max a ∈ L from this L 0
  intro L
  induction L with
  | nil => intro a; exact .inl rfl
  | cons x L ih =>
    intro a
    simp only [List.foldl_cons]
    rcases ih (max a x) with h | h
    · rw [h]
      by_cases hx : a ≤ x
      · right; rw [Int.max_eq_right hx]; simp
      · left; exact Int.max_eq_left (by omega)
    · exact .inr (List.mem_cons_of_mem _ h)
theorem graham_max {n : Nat} (hn : 1 ≤ n) {J : List Int} {M : Int} (hs : J.Pairwise fun a b => b ≤ a) (h0 : ∀ c ∈ J, 0 ≤ c) (hM : 0 ≤ M) (hf : Fits J (List.replicate n 0) M) : 3 * n * gmax (lds n J) ≤ (4 * n - 1) * M := by
  rcases gmax_in (lds n J) with h | h
  · rw [h, Int.mul_zero]; exact Int.mul_nonneg (by omega) hM
  · have := graham hn hs h0 hM hf J.length (Nat.le_refl _) (gmax (lds n J)) (by rw [List.take_of_length_le (Nat.le_refl _)]; exact h)
    exact this
theorem countP_part (f : Int → Bool) {q : List Int} {Q : List (List Int)} (hq : q ∈ Q) : q.countP f ≤ Q.flatten.countP f := by
  obtain ⟨s, t, e⟩ := List.append_of_mem hq
  rw [e, List.flatten_append, List.flatten_cons, List.countP_append, List.countP_append]
  omega
theorem flat_short : ∀ Q : List (List Int), (∀ q ∈ Q, q.length ≤ 1) → Q.flatten.length ≤ Q.length
  | [], _ => by simp
  | q :: Q, h => by
    have h1 := flat_short Q fun x hx => h x (by simp [hx])
    have h2 := h q (by simp)
    simp only [List.flatten_cons, List.length_append, List.length_cons]
    omega
/-- Two of the n + 1 greatest costs stand side by side. -/
theorem fits_pair {n : Nat} {J : List Int} {M : Int} (hs : J.Pairwise fun a b => b ≤ a) (h0 : ∀ c ∈ J, 0 ≤ c) (hn : 1 ≤ n) (hl : n < J.length) (hf : Fits J (List.replicate n 0) M) : J[n - 1] + J[n] ≤ M := by
  have hf1 : Fits (J.take (n + 1)) (List.replicate n 0) M := by
    refine fits_front _ (J.drop (n + 1)) _ _ (fun c hc => h0 c (List.mem_of_mem_drop hc)) ?_
    rw [List.take_append_drop]; exact hf
  obtain ⟨Q, q1, q2, q3⟩ := fits_parts hf1
  by_cases h : J[n - 1] + J[n] ≤ M
  · exact h
  exfalso
  have hge : ∀ c ∈ J.take (n + 1), J[n] ≤ c := by
    intro c hc
    obtain ⟨i, hi, rfl⟩ := List.getElem_of_mem hc
    rw [List.length_take] at hi
    rw [List.getElem_take]
    by_cases e : i = n
    · subst e; exact Int.le_refl _
    · exact List.pairwise_iff_getElem.1 hs i n (by omega) (by omega) (by omega)
  have hcnt : (J.take (n + 1)).countP (fun c => decide (c < J[n - 1])) ≤ 1 := by
    rw [List.take_succ_eq_append_getElem hl, List.countP_append]
    have : (J.take n).countP (fun c => decide (c < J[n - 1])) = 0 := by
      rw [List.countP_eq_zero]
      intro c hc
      obtain ⟨i, hi, rfl⟩ := List.getElem_of_mem hc
      rw [List.length_take] at hi
      rw [List.getElem_take]
      simp only [decide_eq_true_eq]
      by_cases e : i = n - 1
      · subst e; omega
      · have := List.pairwise_iff_getElem.1 hs i (n - 1) (by omega) (by omega) (by omega); omega
    have h2 : [J[n]].countP (fun c => decide (c < J[n - 1])) ≤ 1 := by
      have := List.countP_le_length (p := fun c => decide (c < J[n - 1])) (l := [J[n]])
      simpa using this
    omega
  have hJn : 0 ≤ J[n] := h0 _ (List.getElem_mem hl)
  have hone : ∀ q ∈ Q, q.length ≤ 1 := by
    intro q hq
    match q, hq with
    | [], _ => simp
    | [a], _ => simp
    | a :: b :: r, hq =>
      exfalso
      have hmem : ∀ c ∈ a :: b :: r, c ∈ J.take (n + 1) := fun c hc => q2.mem_iff.1 (List.mem_flatten.2 ⟨_, hq, hc⟩)
      have ha := hge a (hmem a (by simp))
      have hb := hge b (hmem b (by simp))
      have hr := sum_nonneg r fun d hd => by have := hge d (hmem d (by simp [hd])); omega
      have hsum := q3 _ hq
      simp only [List.sum_cons] at hsum
      have c1 : 2 ≤ (a :: b :: r).countP (fun c => decide (c < J[n - 1])) := by
        rw [List.countP_cons_of_pos (by simp; omega), List.countP_cons_of_pos (by simp; omega)]
        omega
      have c2 : (a :: b :: r).countP (fun c => decide (c < J[n - 1])) ≤ Q.flatten.countP (fun c => decide (c < J[n - 1])) := by
        exact countP_part _ hq
      rw [q2.countP_eq] at c2
      omega
  have hlen : Q.flatten.length ≤ Q.length := by
    exact flat_short Q hone
  rw [q2.length_eq, List.length_take] at hlen
  omega
end Go.Proofs.Ytejipflkdigbbaa
