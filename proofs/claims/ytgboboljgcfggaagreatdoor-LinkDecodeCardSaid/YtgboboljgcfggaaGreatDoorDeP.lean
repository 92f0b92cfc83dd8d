/- Plain: what reading consumes. -/
import Derived.Test.YtgboboljgcfggaaGreatDoorDeA
namespace Go.Proofs.YtgboboljgcfggaaGreatDoor

/-- What a reading leaves is no longer; it is shorter where nothing was wrong. -/
def Con {α : Type} (x : α × RS) (s : RS) : Prop := x.2.rest.length ≤ s.rest.length ∧ (x.2.bad = false → s.bad = false ∧ x.2.rest.length + 1 ≤ s.rest.length)
theorem rdN_con (s : RS) : Con (rdN s) s := by
  refine ⟨?_, fun h => ?_⟩
  · unfold rdN
    split
    · simp
    · simp
  · obtain ⟨h1, h2⟩ := rdN_inv s h
    refine ⟨h1, ?_⟩
    have h3 := List.length_pos_iff.2 (dig_ne (rdN s).1.toNat)
    rw [h2, List.length_append]
    unfold eN
    omega
theorem rdT_con (s : RS) : Con (rdT s) s := by
  refine ⟨?_, fun h => ?_⟩
  · unfold rdT
    split
    · simp
    · simp
  · obtain ⟨h1, h2⟩ := rdT_inv s h
    refine ⟨h1, ?_⟩
    have h3 := List.length_pos_iff.2 (dig_ne (rdT s).1.length)
    rw [h2, List.length_append]
    unfold onePut
    rw [List.length_append]
    omega
theorem flag_con (c : Bool) (s : RS) : (flag c s).rest = s.rest ∧ ((flag c s).bad = false → s.bad = false) := ⟨rfl, fun h => (flag_bad h).1⟩
theorem rdI_con (st : Bool) (s : RS) : Con (rdI st s) s := by
  unfold rdI
  have h1 := rdN_con s
  generalize rdN s = a at *
  simp only
  have h2 := rdN_con a.2
  generalize rdN a.2 = b at *
  have h3 := rdN_con (flag (st && b.1 == 1) b.2)
  have h3' := flag_con (st && b.1 == 1) b.2
  generalize flag (st && b.1 == 1) b.2 = b' at *
  generalize rdN b' = c at *
  have h4 := rdT_con c.2
  generalize rdT c.2 = d at *
  have e3 := congrArg List.length h3'.1
  refine ⟨?_, fun h => ?_⟩
  · have := h1.1; have := h2.1; have := h3.1; have := h4.1
    show d.2.rest.length ≤ _
    omega
  · have q4 := h4.2 h
    have q3 := h3.2 q4.1
    have q2 := h2.2 (h3'.2 q3.1)
    have q1 := h1.2 q2.1
    refine ⟨q1.1, ?_⟩
    show d.2.rest.length + 1 ≤ _
    omega
theorem rdL_con {α : Type} {rd : RS → α × RS} (h : ∀ s, Con (rd s) s) : ∀ (n : Nat) (s : RS) (acc : List α), (rdL rd n s acc).2.rest.length ≤ s.rest.length ∧ ((rdL rd n s acc).2.bad = false → s.bad = false)
  | 0, s, acc => ⟨by simp [rdL], fun h => by simpa [rdL] using h⟩
  | n + 1, s, acc => by
    rw [rdL]
    split
    · exact ⟨Nat.le_refl _, id⟩
    · obtain ⟨a, b⟩ := rdL_con h n (rd s).2 (acc ++ [(rd s).1])
      obtain ⟨c, d⟩ := h s
      exact ⟨by omega, fun e => (d (b e)).1⟩
theorem rdB_con (st : Bool) (s : RS) : Con (rdB st s) s := by
  unfold rdB
  have h1 := rdN_con s
  generalize rdN s = a at *
  simp only
  have h2 := rdN_con a.2
  generalize rdN a.2 = b at *
  have h3 := rdN_con (flag (st && decide (1 < b.1)) b.2)
  have h3' := flag_con (st && decide (1 < b.1)) b.2
  generalize flag (st && decide (1 < b.1)) b.2 = b' at *
  generalize rdN b' = c at *
  have h4 := rdL_con (rdI_con st) c.1.toNat c.2 []
  generalize rdL (rdI st) c.1.toNat c.2 [] = d at *
  have e3 := congrArg List.length h3'.1
  refine ⟨?_, fun h => ?_⟩
  · have := h1.1; have := h2.1; have := h3.1; have := h4.1
    show d.2.rest.length ≤ _
    omega
  · have q3 := h3.2 (h4.2 h)
    have q2 := h2.2 (h3'.2 q3.1)
    have q1 := h1.2 q2.1
    refine ⟨q1.1, ?_⟩
    show d.2.rest.length + 1 ≤ _
    have := h4.1
    omega
theorem rdS_con (s : RS) : Con (rdS s) s := by
  unfold rdS
  have h1 := rdT_con s
  generalize rdT s = a at *
  simp only
  have h2 := rdN_con a.2
  generalize rdN a.2 = b at *
  have h3 := rdN_con b.2
  generalize rdN b.2 = c at *
  refine ⟨?_, fun h => ?_⟩
  · have := h1.1; have := h2.1; have := h3.1
    show c.2.rest.length ≤ _
    omega
  · have q3 := h3.2 h
    have q2 := h2.2 q3.1
    have q1 := h1.2 q2.1
    refine ⟨q1.1, ?_⟩
    show c.2.rest.length + 1 ≤ _
    omega
/-- A list that is being read: n elements in all, after j rounds. -/
structure LRS {α : Type} (rd : RS → α × RS) (n : Int) (s0 : RS) (j : Nat) (acc : List α) (s : RS) : Prop where
  e : rdL rd n.toNat s0 [] = rdL rd (n.toNat - j) s acc
  l : acc.length + s.rest.length ≤ s0.rest.length + (if s.bad then 1 else 0)
  k : (j : Int) ≤ n
  a : acc.length = j
theorem LRS.start {α : Type} {rd : RS → α × RS} {n : Int} {s0 : RS} (h : 0 ≤ n) : LRS rd n s0 0 [] s0 := ⟨by simp, by simp, by omega, rfl⟩
theorem LRS.next {α : Type} {rd : RS → α × RS} {n : Int} {s0 s : RS} {j : Nat} {acc : List α} (h : LRS rd n s0 j acc s) (hc : Con (rd s) s) (hj : (j : Int) < n) (hb : s.bad = false) : LRS rd n s0 (j + 1) (acc ++ [(rd s).1]) (rd s).2 := by
  refine ⟨?_, ?_, by omega, by simp [h.a]⟩
  · rw [h.e]
    have e : n.toNat - j = (n.toNat - (j + 1)) + 1 := by omega
    rw [e, rdL, if_neg (by rw [hb]; simp)]
  · have h1 := h.l
    rw [hb] at h1
    simp only [Bool.false_eq_true, if_false] at h1
    rw [List.length_append]
    simp only [List.length_cons, List.length_nil]
    cases hq : (rd s).2.bad with
    | true => have := hc.1; simp only [if_true]; omega
    | false => have := (hc.2 hq).2; simp only [Bool.false_eq_true, if_false]; omega
theorem LRS.fin {α : Type} {rd : RS → α × RS} {n : Int} {s0 s : RS} {j : Nat} {acc : List α} (h : LRS rd n s0 j acc s) (hj : ¬ (j : Int) < n ∨ s.bad = true) : rdL rd n.toNat s0 [] = (acc, s) := by
  rw [h.e]
  cases hk : n.toNat - j with
  | zero => rfl
  | succ k =>
    rw [rdL, if_pos]
    rcases hj with h1 | h1
    · omega
    · exact h1
/-- How much the reader may still read. -/
def msr (s : RS) : Nat := if s.bad then 0 else s.rest.length + 1
theorem msr_lt {α : Type} {x : α × RS} {s : RS} (hc : Con x s) (hb : s.bad = false) : msr x.2 < msr s := by
  unfold msr
  rw [hb]
  cases hq : x.2.bad with
  | true => simp
  | false => have := (hc.2 hq).2; simp; omega
theorem rdL_len {α : Type} {rd : RS → α × RS} (h : ∀ s, Con (rd s) s) : ∀ (n : Nat) (s : RS) (acc : List α), (rdL rd n s acc).1.length ≤ acc.length + msr s
  | 0, s, acc => by simp [rdL]
  | n + 1, s, acc => by
    rw [rdL]
    split
    · simp
    · rename_i hb
      have hb : s.bad = false := by simpa using hb
      have h1 := rdL_len h n (rd s).2 (acc ++ [(rd s).1])
      have h2 := msr_lt (h s) hb
      rw [List.length_append] at h1
      simp only [List.length_cons, List.length_nil] at h1
      omega
theorem rdL_all {α : Type} {rd : RS → α × RS} {P : α → Prop} (h : ∀ s, P (rd s).1) : ∀ (n : Nat) (s : RS) (acc : List α), (∀ x ∈ acc, P x) → ∀ x ∈ (rdL rd n s acc).1, P x
  | 0, s, acc, ha => by simpa [rdL] using ha
  | n + 1, s, acc, ha => by
    rw [rdL]
    split
    · exact ha
    · refine rdL_all h n _ _ fun x hx => ?_
      rcases List.mem_append.1 hx with h1 | h1
      · exact ha x h1
      · simp only [List.mem_cons, List.not_mem_nil, or_false] at h1
        rw [h1]
        exact h s
theorem rdT_len (s : RS) : (rdT s).1.length ≤ 65536 := by
  unfold rdT
  split
  · rename_i h
    obtain ⟨r, e1, e2, h3⟩ := gt_inv (l := s.rest) (x := (gt s.rest).1) (k := (gt s.rest).2.1) (by rw [← h])
    exact h3
  · simp
theorem rdB_len (st : Bool) (s : RS) : (rdB st s).1.ins.length ≤ s.rest.length + 1 ∧ ∀ x ∈ (rdB st s).1.ins, x.name.length ≤ 65536 := by
  have h1 := rdN_con s
  have h2 := rdN_con (rdN s).2
  have h3 := rdN_con (flag (st && decide (1 < (rdN (rdN s).2).1)) (rdN (rdN s).2).2)
  have h4 := rdL_len (rdI_con st) (rdN (flag (st && decide (1 < (rdN (rdN s).2).1)) (rdN (rdN s).2).2)).1.toNat (rdN (flag (st && decide (1 < (rdN (rdN s).2).1)) (rdN (rdN s).2).2)).2 []
  have hm : ∀ s : RS, msr s ≤ s.rest.length + 1 := fun s => by unfold msr; split <;> omega
  have h5 := hm (rdN (flag (st && decide (1 < (rdN (rdN s).2).1)) (rdN (rdN s).2).2)).2
  refine ⟨?_, fun x hx => ?_⟩
  · have e : (flag (st && decide (1 < (rdN (rdN s).2).1)) (rdN (rdN s).2).2).rest.length = (rdN (rdN s).2).2.rest.length := rfl
    have q1 := h1.1
    have q2 := h2.1
    have q3 := h3.1
    simp only [List.length_nil, Nat.zero_add] at h4
    show (rdL (rdI st) (rdN (flag (st && decide (1 < (rdN (rdN s).2).1)) (rdN (rdN s).2).2)).1.toNat (rdN (flag (st && decide (1 < (rdN (rdN s).2).1)) (rdN (rdN s).2).2)).2 []).1.length ≤ _
    omega
  · exact rdL_all (P := fun x : Ins => x.name.length ≤ 65536) (fun s => rdT_len _) _ _ [] (by simp) x hx
end Go.Proofs.YtgboboljgcfggaaGreatDoor
