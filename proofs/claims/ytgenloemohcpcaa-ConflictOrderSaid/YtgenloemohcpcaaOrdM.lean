/- What holds in the midst of the region that makes the four sums of ConflictOrder. -/
import Derived.Test.YtgenloemohcpcaaInv
namespace Go.Proofs.Ytgenloemohcpcaa
open Go.RowKit

theorem ready_ne {md : Region.Mode} {ops : Array Oper} {l : Array Bool} (hsz : l.size = ops.size) (hd : ((List.range ops.size).all fun i => ((ops[i]?).map fun o => o.after.all fun e => decide (e.on < i)).getD false) = true) :
    ∀ j : Nat, l[j]? = some false → Region.ready md ops l ≠ [] := by
  intro j
  induction j using Nat.strongRecOn with
  | ind j ih =>
    intro hj
    have hlt : j < l.size := by
      rcases Nat.lt_or_ge j l.size with h | h
      · exact h
      · rw [Array.getElem?_eq_none h] at hj; cases hj
    by_cases h : ∃ k, k < j ∧ l[k]? = some false
    · obtain ⟨k, hk, e⟩ := h
      exact ih k hk e
    · have hall : ∀ k, k < j → l.getD k false = true := by
        intro k hk
        have hk2 : k < l.size := by omega
        simp only [Array.getD, hk2, dite_true]
        cases e : l[k] with
        | true => exact e
        | false => exact absurd ⟨k, hk, by rw [Array.getElem?_eq_getElem hk2, e]⟩ h
      have hm : j ∈ Region.ready md ops l := by
        rw [mem_ready]
        have hd' := List.all_eq_true.1 hd j (by simp; omega)
        refine ⟨?_, ?_⟩
        · rw [Array.getElem?_eq_getElem hlt] at hj
          simp only [Array.getD, hlt, dite_true]
          exact Option.some.inj hj
        · cases ho : ops[j]? with
          | none => rw [ho] at hd'; simp at hd'
          | some o =>
            refine ⟨o, rfl, fun e he _ => hall _ ?_⟩
            rw [ho] at hd'
            simp only [Option.map_some, Option.getD_some, Array.all_eq_true_iff_forall_mem, decide_eq_true_eq] at hd'
            exact hd' e he
      intro h0
      rw [h0] at hm
      cases hm

theorem wpOp_K {P : Program} {ops : Array Oper} {Q : Exit → Act → World → Prop} {i : Nat} {K0 : Act → World → Prop} {a : Act} {w : World} (h : ∀ K : Act → World → Prop, Hid (∀ a' w', K0 a' w' → K a' w') → wpOp P ops Q i K a w) : wpOp P ops Q i K0 a w := h K0 (Lib.hid fun _ _ q => q)

abbrev SR.c1 (s : SR) : Value := .slice s.A s.L.length s.c
abbrev SR.c2 (s : SR) : Value := .slice s.B s.M.length s.d

structure Mem4 (W : World) (x : Nat → T) (G : Nat) (b : Nat → Bool) (v : Nat → Value) (w : World) : Prop where
  be : Below W.heap.size W w
  ia : ∀ k, k < 4 → b (3 * k) = true → v (37 + 3 * k) = .pointer (some ⟨G, k, none⟩)
  ld : ∀ k, k < 4 → b (3 * k + 1) = true → v (38 + 3 * k) = tv (x k)
  ca : ∀ k, k < 4 → b (3 * k + 2) = true → ∃ s : SR, v (39 + 3 * k) = s.val ∧ s.Rd w ∧ s.p = one (x k)
  al : ∀ k, k < 4 → b (12 + k) = true → ∃ g, v (7 + k) = .pointer (some ⟨g, 0, none⟩) ∧ W.heap.size ≤ g ∧ (b (16 + k) = false → BK w g (.slice none 0 0) (.slice none 0 0)) ∧ (b (16 + k) = true → ∃ s : SR, s.p = one (x k) ∧ s.Rd w ∧ BK w g s.c1 s.c2)
  st : ∀ k, k < 4 → b (16 + k) = true → b (12 + k) = true
  ap : ∀ j k, j < 4 → k < 4 → j ≠ k → b (12 + j) = true → b (12 + k) = true → v (7 + j) ≠ v (7 + k)

section
variable {W : World} {x : Nat → T} {G : Nat} {b : Nat → Bool} {v : Nat → Value} {w : World}

theorem Mem4.index (h : Mem4 W x G b v w) {k : Nat} (hk : k < 4) : Mem4 W x G (upd b (3 * k) true) (upd v (37 + 3 * k) (.pointer (some ⟨G, k, none⟩))) w := by
  refine ⟨h.be, fun j hj hb => ?_, fun j hj hb => ?_, fun j hj hb => ?_, fun j hj hb => ?_, fun j hj hb => ?_, fun i j hi hj hij hb hb' => ?_⟩
  · by_cases e : j = k
    · subst e; rw [upd_at]
    · rw [upd_ne _ _ (by omega)] at hb ⊢; exact h.ia j hj hb
  · rw [upd_ne _ _ (by omega)] at hb ⊢; exact h.ld j hj hb
  · rw [upd_ne _ _ (by omega)] at hb ⊢; exact h.ca j hj hb
  · rw [upd_ne _ _ (by omega)] at hb; rw [upd_ne _ _ (by omega), upd_ne b _ (show 16 + j ≠ 3 * k by omega)]; exact h.al j hj hb
  · rw [upd_ne _ _ (by omega)] at hb ⊢; exact h.st j hj hb
  · rw [upd_ne _ _ (by omega)] at hb hb'; rw [upd_ne _ _ (by omega), upd_ne _ _ (by omega)]; exact h.ap i j hi hj hij hb hb'
theorem Mem4.load (h : Mem4 W x G b v w) {k : Nat} (hk : k < 4) : Mem4 W x G (upd b (3 * k + 1) true) (upd v (38 + 3 * k) (tv (x k))) w := by
  refine ⟨h.be, fun j hj hb => ?_, fun j hj hb => ?_, fun j hj hb => ?_, fun j hj hb => ?_, fun j hj hb => ?_, fun i j hi hj hij hb hb' => ?_⟩
  · rw [upd_ne _ _ (by omega)] at hb ⊢; exact h.ia j hj hb
  · by_cases e : j = k
    · subst e; rw [upd_at]
    · rw [upd_ne _ _ (by omega)] at hb ⊢; exact h.ld j hj hb
  · rw [upd_ne _ _ (by omega)] at hb ⊢; exact h.ca j hj hb
  · rw [upd_ne _ _ (by omega)] at hb; rw [upd_ne _ _ (by omega), upd_ne b _ (show 16 + j ≠ 3 * k + 1 by omega)]; exact h.al j hj hb
  · rw [upd_ne _ _ (by omega)] at hb ⊢; exact h.st j hj hb
  · rw [upd_ne _ _ (by omega)] at hb hb'; rw [upd_ne _ _ (by omega), upd_ne _ _ (by omega)]; exact h.ap i j hi hj hij hb hb'
theorem Mem4.below (h : Mem4 W x G b v w) {w' : World} (hb : Below w.heap.size w w') : Mem4 W x G b v w' := by
  refine ⟨h.be.trans (hb.mono h.be.size), h.ia, h.ld, fun j hj hb' => ?_, fun j hj hb' => ?_, h.st, h.ap⟩
  · obtain ⟨s, e, r, p⟩ := h.ca j hj hb'; exact ⟨s, e, r.below hb, p⟩
  · obtain ⟨g, e, hg, h1, h2⟩ := h.al j hj hb'
    refine ⟨g, e, hg, fun q => (h1 q).below hb (h1 q).lt, fun q => ?_⟩
    obtain ⟨s, p, r, k⟩ := h2 q
    exact ⟨s, p, r.below hb, k.below hb k.lt⟩
theorem Mem4.call (h0 : Mem4 W x G b v w) {w' : World} (hbe : Below w.heap.size w w') {k : Nat} (hk : k < 4) {s : SR} (hs : s.Rd w') (hp : s.p = one (x k)) : Mem4 W x G (upd b (3 * k + 2) true) (upd v (39 + 3 * k) s.val) w' := by
  have h := h0.below hbe
  refine ⟨h.be, fun j hj hb => ?_, fun j hj hb => ?_, fun j hj hb => ?_, fun j hj hb => ?_, fun j hj hb => ?_, fun i j hi hj hij hb hb' => ?_⟩
  · rw [upd_ne _ _ (by omega)] at hb ⊢; exact h.ia j hj hb
  · rw [upd_ne _ _ (by omega)] at hb ⊢; exact h.ld j hj hb
  · by_cases e : j = k
    · subst e; rw [upd_at]; exact ⟨s, rfl, hs, hp⟩
    · rw [upd_ne _ _ (by omega)] at hb ⊢; exact h.ca j hj hb
  · rw [upd_ne _ _ (by omega)] at hb; rw [upd_ne _ _ (by omega), upd_ne b _ (show 16 + j ≠ 3 * k + 2 by omega)]; exact h.al j hj hb
  · rw [upd_ne _ _ (by omega)] at hb ⊢; exact h.st j hj hb
  · rw [upd_ne _ _ (by omega)] at hb hb'; rw [upd_ne _ _ (by omega), upd_ne _ _ (by omega)]; exact h.ap i j hi hj hij hb hb'
theorem Mem4.alloc (h0 : Mem4 W x G b v w) {k : Nat} (hk : k < 4) (hf : b (12 + k) = false) : Mem4 W x G (upd b (12 + k) true) (upd v (7 + k) (.pointer (some ⟨w.heap.size, 0, none⟩))) (w.alloc (.cells #[.slice none 0 0, .slice none 0 0] 24)) := by
  have h := h0.below ((Below.refl _ _).alloc (Nat.le_refl _) (.cells #[.slice none 0 0, .slice none 0 0] 24))
  have hs : b (16 + k) = false := by
    cases e : b (16 + k) with
    | false => rfl
    | true => rw [h.st k hk e] at hf; cases hf
  have far : ∀ j, j < 4 → b (12 + j) = true → v (7 + j) ≠ .pointer (some ⟨w.heap.size, 0, none⟩) := by
    intro j hj hb e
    obtain ⟨g, e', hg, h1, h2⟩ := h0.al j hj hb
    rw [e'] at e
    simp only [Value.pointer.injEq, Option.some.injEq, Addr.mk.injEq, and_true] at e
    have : g < w.heap.size := by
      cases q : b (16 + j) with
      | false => exact (h1 q).lt
      | true => obtain ⟨_, _, _, k⟩ := h2 q; exact k.lt
    omega
  refine ⟨h.be, fun j hj hb => ?_, fun j hj hb => ?_, fun j hj hb => ?_, fun j hj hb => ?_, fun j hj hb => ?_, fun i j hi hj hij hb hb' => ?_⟩
  · rw [upd_ne _ _ (by omega)] at hb ⊢; exact h.ia j hj hb
  · rw [upd_ne _ _ (by omega)] at hb ⊢; exact h.ld j hj hb
  · rw [upd_ne _ _ (by omega)] at hb ⊢; exact h.ca j hj hb
  · rw [upd_ne b _ (show 16 + j ≠ 12 + k by omega)]
    by_cases e : j = k
    · subst e
      rw [upd_at]
      exact ⟨_, rfl, h0.be.size, fun _ => BK.new w _ _, fun q => by rw [hs] at q; cases q⟩
    · rw [upd_ne _ _ (by omega)] at hb; rw [upd_ne _ _ (by omega)]; exact h.al j hj hb
  · rw [upd_ne _ _ (by omega)] at hb
    by_cases e : j = k
    · subst e; rw [upd_at]
    · rw [upd_ne _ _ (by omega)]; exact h.st j hj hb
  · by_cases e : i = k
    · subst e
      rw [upd_ne _ _ (by omega)] at hb'
      rw [upd_at, upd_ne _ _ (by omega)]
      exact (far j hj hb').symm
    · rw [upd_ne _ _ (by omega)] at hb
      rw [upd_ne _ _ (by omega)]
      by_cases e' : j = k
      · subst e'
        rw [upd_at]
        exact far i hi hb
      · rw [upd_ne _ _ (by omega)] at hb' ⊢
        exact h.ap i j hi hj hij hb hb'
theorem SR.Rd.sets {s : SR} {g : Nat} (h : s.Rd w) (bk : BK w g (.slice none 0 0) (.slice none 0 0)) (t : SR) : s.Rd ((w.setCell ⟨g, 0, none⟩ t.c1).setCell ⟨g, 1, none⟩ t.c2) := by
  have hr : ∀ A L, RD w A L → RD ((w.setCell ⟨g, 0, none⟩ t.c1).setCell ⟨g, 1, none⟩ t.c2) A L := fun A L h => (h.setSlice bk.c0 _).setSlice (bk.set0 _).c1 _
  exact ⟨hr _ _ h.a, hr _ _ h.b, h.ca, h.cb, h.la, h.lb⟩
theorem Mem4.store (h : Mem4 W x G b v w) {k g : Nat} (hk : k < 4) (hf : b (16 + k) = false) (ha : b (12 + k) = true) (hv : v (7 + k) = .pointer (some ⟨g, 0, none⟩)) {s : SR} (hs : s.Rd w) (hp : s.p = one (x k)) :
    Mem4 W x G (upd b (16 + k) true) v ((w.setCell ⟨g, 0, none⟩ s.c1).setCell ⟨g, 1, none⟩ s.c2) := by
  obtain ⟨g', e, hg, h1, -⟩ := h.al k hk ha
  rw [hv] at e
  simp only [Value.pointer.injEq, Option.some.injEq, Addr.mk.injEq, and_true] at e
  subst e
  have bk := h1 hf
  refine ⟨(h.be.setCell (p := ⟨g, 0, none⟩) hg _).setCell (p := ⟨g, 1, none⟩) hg _, fun j hj hb => ?_, fun j hj hb => ?_, fun j hj hb => ?_, fun j hj hb => ?_, fun j hj hb => ?_, fun i j hi hj hij hb hb' => ?_⟩
  · rw [upd_ne _ _ (by omega)] at hb; exact h.ia j hj hb
  · rw [upd_ne _ _ (by omega)] at hb; exact h.ld j hj hb
  · rw [upd_ne _ _ (by omega)] at hb
    obtain ⟨t, e, r, p⟩ := h.ca j hj hb
    exact ⟨t, e, r.sets bk s, p⟩
  · rw [upd_ne _ _ (by omega)] at hb
    by_cases e : j = k
    · subst e
      rw [upd_at]
      exact ⟨g, hv, hg, fun q => (by cases q), fun _ => ⟨s, hp, hs.sets bk s, (bk.set0 _).set1 _⟩⟩
    · rw [upd_ne _ _ (by omega)]
      obtain ⟨g2, e2, hg2, k1, k2⟩ := h.al j hj hb
      have hne : g2 ≠ g := by
        intro q
        subst q
        exact h.ap j k hj hk e hb ha (e2.trans hv.symm)
      refine ⟨g2, e2, hg2, fun q => ((k1 q).far (p := ⟨g, 0, none⟩) hne _).far (p := ⟨g, 1, none⟩) hne _, fun q => ?_⟩
      obtain ⟨t, p, r, kk⟩ := k2 q
      exact ⟨t, p, r.sets bk s, (kk.far (p := ⟨g, 0, none⟩) hne _).far (p := ⟨g, 1, none⟩) hne _⟩
  · rw [upd_ne _ _ (by omega)]
    by_cases e : j = k
    · subst e; exact ha
    · rw [upd_ne _ _ (by omega)] at hb; exact h.st j hj hb
  · rw [upd_ne _ _ (by omega)] at hb hb'
    exact h.ap i j hi hj hij hb hb'
/-- What the region has made. -/
def Four (w0 : World) (x : Nat → T) (l : List (Nat × SR)) (v : Nat → Value) (w : World) : Prop :=
  ∃ (g : Nat → Nat) (t : Nat → SR), (∀ k, k < 4 → v (7 + k) = .pointer (some ⟨g k, 0, none⟩)) ∧ (∀ k, k < 4 → (t k).p = one (x k)) ∧ Mem w0 w ((g 0, t 0) :: (g 1, t 1) :: (g 2, t 2) :: (g 3, t 3) :: l)
theorem Mem4.done (h : Mem4 W x G b v w) (hb : ∀ j, j < 20 → b j = true) {w0 : World} {l : List (Nat × SR)} (hm : Mem w0 W l) : Four w0 x l v w := by
  have q : ∀ k, ∃ (g : Nat) (t : SR), k < 4 → v (7 + k) = .pointer (some ⟨g, 0, none⟩) ∧ t.p = one (x k) ∧ t.Rd w ∧ BK w g t.c1 t.c2 := by
    intro k
    by_cases hk : k < 4
    · obtain ⟨g, e, hg, -, h2⟩ := h.al k hk (hb _ (by omega))
      obtain ⟨t, p, r, kk⟩ := h2 (hb _ (by omega))
      exact ⟨g, t, fun _ => ⟨e, p, r, kk⟩⟩
    · exact ⟨0, ⟨none, none, 0, 0, [], []⟩, fun h => absurd h hk⟩
  refine ⟨fun k => (q k).choose, fun k => (q k).choose_spec.choose, fun k hk => ((q k).choose_spec.choose_spec hk).1, fun k hk => ((q k).choose_spec.choose_spec hk).2.1, ?_⟩
  have hm' := hm.below h.be
  refine ⟨hm'.be, fun p hp => ?_⟩
  simp only [List.mem_cons] at hp
  rcases hp with rfl | rfl | rfl | rfl | hp
  · exact ⟨((q 0).choose_spec.choose_spec (by omega)).2.2.2, ((q 0).choose_spec.choose_spec (by omega)).2.2.1⟩
  · exact ⟨((q 1).choose_spec.choose_spec (by omega)).2.2.2, ((q 1).choose_spec.choose_spec (by omega)).2.2.1⟩
  · exact ⟨((q 2).choose_spec.choose_spec (by omega)).2.2.2, ((q 2).choose_spec.choose_spec (by omega)).2.2.1⟩
  · exact ⟨((q 3).choose_spec.choose_spec (by omega)).2.2.2, ((q 3).choose_spec.choose_spec (by omega)).2.2.1⟩
  · exact hm'.all p hp
theorem Mem4.start (W : World) (x : Nat → T) (G : Nat) (v : Nat → Value) : Mem4 W x G (fun _ => false) v W :=
  ⟨Below.refl _ _, fun _ _ h => (by cases h), fun _ _ h => (by cases h), fun _ _ h => (by cases h), fun _ _ h => (by cases h), fun _ _ h => (by cases h), fun _ _ _ _ _ h => (by cases h)⟩
end
end Go.Proofs.Ytgenloemohcpcaa
