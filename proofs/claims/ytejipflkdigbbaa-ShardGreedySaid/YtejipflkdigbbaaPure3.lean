/- Divisions and their sums, in plain words. -/
import Derived.Test.YtejipflkdigbbaaPure2
namespace Go.Proofs.Ytejipflkdigbbaa

def mark (S : List Bool) (L : List Int) : List Bool := L.foldl (fun S i => S.set i.toNat true) S
theorem set_getD {S : List Bool} {j k : Nat} (h : (S.set j true).getD k false = false) : S.getD k false = false := by
  rw [List.getD_eq_getElem?_getD, List.getElem?_set] at h
  rw [List.getD_eq_getElem?_getD]
  by_cases e : j = k
  · subst e
    rw [if_pos rfl] at h
    by_cases hl : j < S.length
    · rw [if_pos hl] at h; simp at h
    · rw [List.getElem?_eq_none (by omega)]; rfl
  · rw [if_neg e] at h; exact h
theorem ckP_ok {n : Nat} : ∀ (L : List Int) (p : Option Int) (S S' : List Bool), ckP n p L S = (0, S') →
    (∀ i ∈ L, 0 ≤ i ∧ i < n) ∧ (∀ q, p = some q → ∀ i ∈ L, q < i) ∧ L.Pairwise (· < ·) ∧ S' = mark S L ∧ (∀ i ∈ L, S.getD i.toNat false = false)
  | [], p, S, S', h => by
    simp only [ckP, Prod.mk.injEq, true_and] at h
    simp [mark, h]
  | i :: r, p, S, S', h => by
    simp only [ckP] at h
    by_cases h0 : ck1 n p i S = 0
    · rw [if_neg (by simpa using h0)] at h
      obtain ⟨a1, a2, a3, a4, a5⟩ := ckP_ok r (some i) _ S' h
      unfold ck1 at h0
      by_cases h1 : i < 0 ∨ (n : Int) ≤ i
      · rw [if_pos h1] at h0; simp at h0
      rw [if_neg h1] at h0
      by_cases h2 : p.any (fun q => decide (i ≤ q)) = true
      · rw [if_pos h2] at h0; simp at h0
      rw [if_neg h2] at h0
      by_cases h3 : S.getD i.toNat false = true
      · rw [if_pos h3] at h0; simp at h0
      have hp : ∀ q, p = some q → q < i := fun q hq => by
        subst hq
        have : ¬ i ≤ q := by simpa using h2
        omega
      refine ⟨?_, ?_, ?_, ?_, ?_⟩
      · intro j hj
        rcases List.mem_cons.1 hj with rfl | hj
        · omega
        · exact a1 j hj
      · intro q hq j hj
        rcases List.mem_cons.1 hj with rfl | hj
        · exact hp q hq
        · have := hp q hq; have := a2 i rfl j hj; omega
      · exact List.pairwise_cons.2 ⟨fun j hj => a2 i rfl j hj, a3⟩
      · rw [a4]; rfl
      · intro j hj
        rcases List.mem_cons.1 hj with rfl | hj
        · simpa using h3
        · exact set_getD (a5 j hj)
    · rw [if_pos h0] at h
      simp only [Prod.mk.injEq] at h
      exact absurd h.1 h0
theorem ckPs_ok {n : Nat} : ∀ (l : List (List Int)) (S S' : List Bool), ckPs n l S = (0, S') → (∀ L ∈ l, (∀ i ∈ L, 0 ≤ i ∧ i < n) ∧ L.Pairwise (· < ·)) ∧ S' = mark S l.flatten
  | [], S, S', h => by
    simp only [ckPs, Prod.mk.injEq, true_and] at h
    simp [mark, h]
  | p :: r, S, S', h => by
    simp only [ckPs] at h
    by_cases h0 : (ckP n none p S).1 = 0
    · rw [if_neg (by simpa using h0)] at h
      obtain ⟨a1, -, a3, a4, -⟩ := ckP_ok p none S (ckP n none p S).2 (by rw [← h0])
      obtain ⟨b1, b2⟩ := ckPs_ok r _ _ h
      refine ⟨fun L hL => ?_, ?_⟩
      · rcases List.mem_cons.1 hL with rfl | hL
        · exact ⟨a1, a3⟩
        · exact b1 L hL
      · rw [b2, a4]
        simp [mark, List.foldl_append]
    · rw [if_pos h0] at h
      rw [h] at h0
      exact absurd rfl h0
theorem ck_ok {C : List Int} {l : List (List Int)} (h : ck C l = 0) : cc C = 0 ∧ (∀ L ∈ l, (∀ i ∈ L, 0 ≤ i ∧ i < C.length) ∧ L.Pairwise (· < ·)) ∧ (mark (List.replicate C.length false) l.flatten).contains false = false := by
  unfold ck at h
  by_cases h0 : cc C = 0
  · rw [if_neg (by simpa using h0)] at h
    unfold fin at h
    by_cases h1 : (ckPs C.length l (List.replicate C.length false)).1 = 0
    · rw [if_neg (by simpa using h1)] at h
      obtain ⟨a, b⟩ := ckPs_ok l _ (ckPs C.length l (List.replicate C.length false)).2 (by rw [← h1])
      refine ⟨h0, a, ?_⟩
      rw [← b]
      cases hc : (ckPs C.length l (List.replicate C.length false)).2.contains false with
      | false => rfl
      | true => rw [if_pos hc] at h; cases h
    · rw [if_pos h1] at h; exact absurd h h1
  · rw [if_pos h0] at h; exact absurd h h0
theorem asc_len {n : Nat} : ∀ (L : List Int) (a : Nat), (∀ i ∈ L, (a : Int) ≤ i ∧ i < n) → L.Pairwise (· < ·) → L.length + a ≤ n ∨ L = []
  | [], _, _, _ => .inr rfl
  | x :: L, a, h, hp => by
    rw [List.pairwise_cons] at hp
    have hx := h x (by simp)
    left
    rcases asc_len L (x.toNat + 1) (fun i hi => ⟨by have := hp.1 i hi; omega, (h i (by simp [hi])).2⟩) hp.2 with h2 | h2
    · simp only [List.length_cons]; omega
    · subst h2; simp only [List.length_cons, List.length_nil]; omega

/-- The cost of a part. -/
def psum (C : List Int) (p : List Int) : Int := (p.map fun i => C.getD i.toNat 0).sum
theorem psum_nil (C : List Int) : psum C [] = 0 := rfl
theorem psum_append (C p q : List Int) : psum C (p ++ q) = psum C p + psum C q := by simp [psum]
theorem psum_take {C p : List Int} {k : Nat} (h : k < p.length) : psum C (p.take (k + 1)) = psum C (p.take k) + C.getD p[k].toNat 0 := by
  rw [List.take_succ_eq_append_getElem h, psum_append]; simp [psum]
theorem getD_bd {C : List Int} (hC : ∀ c ∈ C, 0 ≤ c ∧ c ≤ 1099511627776) (k : Nat) : 0 ≤ C.getD k 0 ∧ C.getD k 0 ≤ 1099511627776 := by
  rw [List.getD_eq_getElem?_getD]
  by_cases h : k < C.length
  · rw [List.getElem?_eq_getElem h]; exact hC _ (List.getElem_mem h)
  · rw [List.getElem?_eq_none (by omega)]; simp
theorem psum_bd {C : List Int} (hC : ∀ c ∈ C, 0 ≤ c ∧ c ≤ 1099511627776) : ∀ p : List Int, 0 ≤ psum C p ∧ psum C p ≤ p.length * 1099511627776
  | [] => by simp [psum]
  | x :: p => by
    have h1 := psum_bd hC p
    have h2 := getD_bd hC x.toNat
    have e : psum C (x :: p) = C.getD x.toNat 0 + psum C p := by simp [psum]
    rw [e, List.length_cons]
    omega
def sums (C : List Int) (l : List (List Int)) : List Int := l.map (psum C)
def span (C : List Int) (l : List (List Int)) : Int := gmax (sums C l)
theorem gmax_take {L : List Int} {k : Nat} (h : k < L.length) : gmax (L.take (k + 1)) = max (gmax (L.take k)) L[k] := by
  unfold gmax; rw [List.take_succ_eq_append_getElem h, List.foldl_append]; rfl
theorem row_bd {C : List Int} {l : List (List Int)} (h : ck C l = 0) {L : List Int} (hL : L ∈ l) : L.length ≤ C.length := by
  obtain ⟨h0, h1, -⟩ := ck_ok h
  rcases asc_len (n := C.length) L 0 (fun i hi => by have := (h1 L hL).1 i hi; omega) (h1 L hL).2 with h | h
  · omega
  · subst h; simp
end Go.Proofs.Ytejipflkdigbbaa
