/- Plain: without a chance the seed does not matter. -/
import Derived.Test.YtdfllhmkgphcmaaDoorM9
namespace Go.Proofs.YtdfllhmkgphcmaaDoor

/-- No instruction draws. -/
def NoCh (bs : List Blk) : Prop := ∀ b ∈ bs, ∀ x ∈ b.ins, x.op ≠ 16
def reseed (m : MM) (s : Int) : MM := { m with seed := s }
theorem exec_seed {bs : List Blk} {x : Ins} {S : List MV} {G : List MF} {f : MF} {s s' : Int} (hx : x.op ≠ 16) (hv : fK x.op = true) :
    (∀ r, exec bs x S G f s = .ok r → r.seed = s ∧ exec bs x S G f s' = .ok { r with seed := s' }) ∧ ∀ e, exec bs x S G f s = .error e → exec bs x S G f s' = .error e := by
  obtain ⟨op, a, b, nm⟩ := x
  simp only at hx hv
  rcases op_split op with rfl | rfl | rfl | rfl | rfl | rfl | rfl | rfl | rfl | rfl | rfl | rfl | rfl | rfl | rfl | rfl | ⟨h1, h2, h3, h4, h5, h6, h7, h8, h9, h10, h11, h12, h13, h14, h15, h16⟩
  case inr.inr.inr.inr.inr.inr.inr.inr.inr.inr.inr.inr.inr.inr.inr.inl => exact absurd rfl hx
  case inr.inr.inr.inr.inr.inr.inr.inr.inr.inr.inr.inr.inr.inr.inr.inr => simp [fK, fA, *] at hv
  all_goals
    clear hv hx
    unfold exec
    simp only [Int.reduceEq, if_true, if_false]
    repeat' split
    all_goals simp_all
    all_goals grind
theorem step_seed (m : MM) (s' : Int) (hc : NoCh m.bs) (hv : vBs m.bs) : (stepM m).seed = m.seed ∧ (stepM m).bs = m.bs ∧ stepM (reseed m s') = reseed (stepM m) s' := by
  unfold stepM
  show _ ∧ _ ∧ (match unsn m.F with
    | none => _
    | some (G, f) => match m.bs[f.block.toNat]? with
      | none => _
      | some b => match b.ins[f.at_.toNat]? with
        | none => _
        | some x => match exec m.bs x m.S G { f with at_ := f.at_ + 1 } s' with
          | .error e => _
          | .ok s => _) = _
  cases h1 : unsn m.F with
  | none => exact ⟨rfl, rfl, rfl⟩
  | some q =>
    obtain ⟨G, f⟩ := q
    simp only
    cases h2 : m.bs[f.block.toNat]? with
    | none => exact ⟨rfl, rfl, rfl⟩
    | some b =>
      simp only
      cases h3 : b.ins[f.at_.toNat]? with
      | none => exact ⟨rfl, rfl, rfl⟩
      | some x =>
        simp only
        have hb := List.mem_of_getElem? h2
        have hx := List.mem_of_getElem? h3
        obtain ⟨k1, k2⟩ := exec_seed (bs := m.bs) (S := m.S) (G := G) (f := { f with at_ := f.at_ + 1 }) (s := m.seed) (s' := s') (hc b hb x hx) (hv b hb x hx).1
        cases h4 : exec m.bs x m.S G { f with at_ := f.at_ + 1 } m.seed with
        | error e =>
          have h5 := k2 e h4
          simp only [h5]
          exact ⟨trivial, trivial, rfl⟩
        | ok r =>
          obtain ⟨h5, h6⟩ := k1 r h4
          simp only [h6]
          exact ⟨h5, trivial, rfl⟩
theorem run_seed (s' : Int) : ∀ (n : Nat) (m : MM), NoCh m.bs → vBs m.bs → (runE n m).1.seed = m.seed ∧ runE n (reseed m s') = (reseed (runE n m).1 s', (runE n m).2)
  | 0, m, _, _ => ⟨rfl, rfl⟩
  | n + 1, m, hc, hv => by
    obtain ⟨h1, h2, h3⟩ := step_seed m s' hc hv
    have h4 : ended (reseed (stepM m) s') = ended (stepM m) := rfl
    rw [runE, runE, h3, h4]
    by_cases he : ended (stepM m)
    · rw [if_pos he, if_pos he]
      exact ⟨h1, rfl⟩
    · rw [if_neg he, if_neg he]
      obtain ⟨k1, k2⟩ := run_seed s' n (stepM m) (by rw [h2]; exact hc) (by rw [h2]; exact hv)
      exact ⟨k1.trans h1, k2⟩
end Go.Proofs.YtdfllhmkgphcmaaDoor
