/- Plain: how runs end. -/
import Derived.Test.YtdfllhmkgphcmaaDoorM9
namespace Go.Proofs.YtdfllhmkgphcmaaDoor

theorem exec_err {bs : List Blk} {x : Ins} {S : List MV} {G : List MF} {f : MF} {s e : Int} (h : exec bs x S G f s = .error e) : e = 26 ∨ e = 5 := by
  obtain ⟨op, a, b, nm⟩ := x
  rcases op_split op with rfl | rfl | rfl | rfl | rfl | rfl | rfl | rfl | rfl | rfl | rfl | rfl | rfl | rfl | rfl | rfl | ⟨h1, h2, h3, h4, h5, h6, h7, h8, h9, h10, h11, h12, h13, h14, h15, -⟩
  case inr.inr.inr.inr.inr.inr.inr.inr.inr.inr.inr.inr.inr.inr.inr.inr =>
    simp only [beq_eq_false_iff_ne, ne_eq] at h1 h2 h3 h4 h5 h6 h7 h8 h9 h10 h11 h12 h13 h14 h15
    simp [exec, h1, h2, h3, h4, h5, h6, h7, h8, h9, h10, h11, h12, h13, h14, h15] at h
  all_goals
    simp only [exec, Int.reduceEq, if_true, if_false] at h
    repeat' split at h
    all_goals first | (cases h; exact .inl rfl) | (cases h; exact .inr rfl) | cases h
theorem stepM_err (m : MM) (he : ended m = false) : (stepM m).err = 0 ∨ (((stepM m).err = 26 ∨ (stepM m).err = 5) ∧ (stepM m).done = false) := by
  obtain ⟨hd, h0⟩ := ended_no he
  unfold stepM
  split
  · exact .inr ⟨.inl rfl, hd⟩
  · split
    · exact .inr ⟨.inl rfl, hd⟩
    · split
      · exact .inr ⟨.inl rfl, hd⟩
      · split
        · rename_i h
          exact .inr ⟨exec_err h, hd⟩
        · exact .inl h0
/-- How a run stands. -/
def EndF (k : Nat) (m : MM) (r : MM × Int) : Prop := MI k r.1 ∧ r.1.bs = m.bs ∧ ((r.2 = 27 ∧ r.1.done = false ∧ r.1.err = 0) ∨ (r.2 = 0 ∧ r.1.done = true ∧ r.1.err = 0) ∨ (r.2 = 0 ∧ r.1.done = false ∧ (r.1.err = 26 ∨ r.1.err = 5)))
theorem run_endF : ∀ (n k : Nat) (m : MM), MI k m → ended m = false → ∃ k', k' ≤ k + 2 * n ∧ EndF k' m (runE n m)
  | 0, k, m, hI, he => ⟨k, by omega, hI, rfl, .inl ⟨rfl, (ended_no he).1, (ended_no he).2⟩⟩
  | n + 1, k, m, hI, he => by
    obtain ⟨h1, h2, h3⟩ := stepM_keep hI he
    rw [runE]
    by_cases hs : ended (stepM m) = true
    · rw [if_pos hs]
      refine ⟨k + 2, by omega, h1, h2, ?_⟩
      rcases stepM_err m he with h4 | ⟨h4, h5⟩
      · refine .inr (.inl ⟨rfl, ?_, h4⟩)
        unfold ended at hs
        simpa [h4] using hs
      · exact .inr (.inr ⟨rfl, h5, h4⟩)
    · rw [if_neg hs]
      obtain ⟨k', k1, e1, e2, e3⟩ := run_endF n (k + 2) (stepM m) h1 (by simpa using hs)
      exact ⟨k', by omega, e1, e2.trans h2, e3⟩
end Go.Proofs.YtdfllhmkgphcmaaDoor
