/- Plain: what does not depend on the order of the costs. -/
import Derived.Test.YtejipflkdigbbaaQck
namespace Go.Proofs.Ytejipflkdigbbaa

theorem cc_perm {C D : List Int} (p : C.Perm D) : cc C = cc D := by
  unfold cc
  rw [p.length_eq]
  have : C.any badc = D.any badc := by
    rw [Bool.eq_iff_iff, List.any_eq_true, List.any_eq_true]
    exact ⟨fun ⟨x, h, k⟩ => ⟨x, p.mem_iff.1 h, k⟩, fun ⟨x, h, k⟩ => ⟨x, p.mem_iff.2 h, k⟩⟩
  rw [this]
theorem ca_perm {C D : List Int} (p : C.Perm D) (n : Int) : ca C n = ca D n := by
  unfold ca
  rw [cc_perm p]
theorem least_perm {C D : List Int} (p : C.Perm D) (n : Int) : least C n = least D n := by
  have e : (C = []) = (D = []) := by
    apply propext
    rw [← List.length_eq_zero_iff, ← List.length_eq_zero_iff, p.length_eq]
  unfold least
  simp only [dsc_of_perm p, sum_perm p, p.length_eq, e]
theorem bst_perm {C D : List Int} (p : C.Perm D) (n : Int) : bst C n = bst D n := by
  unfold bst bstE
  rw [ca_perm p, p.length_eq]
  by_cases h : ca D n = 0
  · have h1 := (ca_zero.1 h).2.1
    rw [best_perm (by omega) p]
  · simp [h]
theorem exch_perm : ∀ (L : List Int) (a b : Nat) (ha : a < L.length) (hb : b < L.length), ((L.set a L[b]).set b L[a]).Perm L := by
  intro L a b ha hb
  by_cases e : a = b
  · subst e
    simp
  · have h1 := set_perm L[a] (L.set a L[b]) b (by simpa using hb)
    have h2 := set_perm L[b] L a ha
    have h3 := self_perm L a ha
    have h4 := self_perm (L.set a L[b]) b (by simpa using hb)
    have e4 : (L.set a L[b])[b]'(by simpa using hb) = L[b] := by simp [List.getElem_set]
    rw [e4] at h4
    -- set a: L[b] :: E1; = L[b] :: E2
    have h5 : (L.eraseIdx a).Perm ((L.set a L[b]).eraseIdx b) := (List.perm_cons L[b]).1 (h2.symm.trans h4)
    exact h1.trans (((h5.symm).cons L[a]).trans h3.symm)
end Go.Proofs.Ytejipflkdigbbaa
