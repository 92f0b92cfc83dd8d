/- Boxes of sums that are known. -/
import Derived.Test.YtgenloemohcpcaaLawMerge
namespace Go.Proofs.Ytgenloemohcpcaa
open Go.RowKit

/-- In these blocks lie these sums; nothing that was there before has turned. -/
structure Mem (w0 w : World) (l : List (Nat × SR)) : Prop where
  be : Below w0.heap.size w0 w
  all : ∀ p ∈ l, BK w p.1 (.slice p.2.A p.2.L.length p.2.c) (.slice p.2.B p.2.M.length p.2.d) ∧ p.2.Rd w

theorem Mem.below {w0 w w' : World} {l : List (Nat × SR)} (h : Mem w0 w l) (hb : Below w.heap.size w w') : Mem w0 w' l :=
  ⟨h.be.trans (hb.mono h.be.size), fun p hp => ⟨(h.all p hp).1.below hb (h.all p hp).1.lt, (h.all p hp).2.below hb⟩⟩
theorem Mem.box {w0 w : World} {l : List (Nat × SR)} (h : Mem w0 w l) (s : SR) (hs : s.Rd w) : Mem w0 (w.alloc (.cells #[.slice s.A s.L.length s.c, .slice s.B s.M.length s.d] 24)) ((w.heap.size, s) :: l) := by
  have k : Below w.heap.size w (w.alloc (.cells #[.slice s.A s.L.length s.c, .slice s.B s.M.length s.d] 24)) := (Below.refl _ _).alloc (Nat.le_refl _) _
  have h' := h.below k
  refine ⟨h'.be, fun p hp => ?_⟩
  rcases List.mem_cons.1 hp with rfl | hp
  · exact ⟨BK.new w _ _, hs.below k⟩
  · exact h'.all p hp
theorem Mem.bk {w0 w : World} {l : List (Nat × SR)} (h : Mem w0 w l) {g : Nat} {s : SR} (hm : (g, s) ∈ l) : BK w g (.slice s.A s.L.length s.c) (.slice s.B s.M.length s.d) := (h.all _ hm).1
theorem Mem.rd {w0 w : World} {l : List (Nat × SR)} (h : Mem w0 w l) {g : Nat} {s : SR} (hm : (g, s) ∈ l) : s.Rd w := (h.all _ hm).2
theorem Mem.of_tri {w0 w : World} {b l r : SR} (h : Tri w0 w b l r) : Mem w0 w [(w0.heap.size, b), (w0.heap.size + 1, l), (w0.heap.size + 1 + 1, r)] := by
  refine ⟨h.be, fun p hp => ?_⟩
  simp only [List.mem_cons, List.not_mem_nil, or_false] at hp
  rcases hp with rfl | rfl | rfl
  · exact ⟨h.b0, h.rb⟩
  · exact ⟨h.b1, h.rl⟩
  · exact ⟨h.b2, h.rr⟩

/-- The errors of Merge at valid sums. -/
theorem merge_valid {b l r : List T × List T} (hb : Okp b) (hl : Okp l) (hr : Okp r) : mErr b l r = 0 ∧ mSum b l r = mrg b l r := mErr0 (chk_zero.2 hb) (chk_zero.2 hl) (chk_zero.2 hr)

theorem same_of_p {s t : SR} (h : s.p = t.p) : same2 s.L s.M t.L t.M = true := by
  unfold SR.p at h
  simp only [Prod.mk.injEq] at h
  simp [same2, h.1, h.2]
theorem same_of_ne {s t : SR} (h : s.p ≠ t.p) : same2 s.L s.M t.L t.M = false := by
  unfold SR.p at h
  simp only [ne_eq, Prod.mk.injEq] at h
  simp only [same2, Bool.and_eq_false_iff, decide_eq_false_iff_not]
  exact Classical.not_and_iff_not_or_not.1 h
end Go.Proofs.Ytgenloemohcpcaa
