/- Walk: the statement ConflictTrivial, whole. -/
import Derived.Test.YtgenloemohcpcaaLawTriv
namespace Go.Proofs.Ytgenloemohcpcaa
open Go.RowKit

set_option maxRecDepth 100000 in
set_option maxHeartbeats 1000000 in
theorem triv_great (b l r : SR) (w : World) (hb : b.Rd0 w) (hl : l.Rd0 w) (hr : r.Rd0 w) (hg : grs [b, l, r] = true) :
    Calls Try.prog 4 #[b.val, l.val, r.val] w fun e w' => e = .returned (.bool true) ∧ Below w.heap.size w w' := by
  have ss := ss_new (((w.alloc (.cells #[.slice b.A b.L.length b.c, .slice b.B b.M.length b.d] 24)).alloc (.cells #[.slice l.A l.L.length l.c, .slice l.B l.M.length l.d] 24)).alloc (.cells #[.slice r.A r.L.length r.c, .slice r.B r.M.length r.d] 24)) b l r
  have hz : (((w.alloc (.cells #[.slice b.A b.L.length b.c, .slice b.B b.M.length b.d] 24)).alloc (.cells #[.slice l.A l.L.length l.c, .slice l.B l.M.length l.d] 24)).alloc (.cells #[.slice r.A r.L.length r.c, .slice r.B r.M.length r.d] 24)).heap.size = w.heap.size + 1 + 1 + 1 := by simp
  rw [hz] at ss
  have k : Below w.heap.size w ((((w.alloc (.cells #[.slice b.A b.L.length b.c, .slice b.B b.M.length b.d] 24)).alloc (.cells #[.slice l.A l.L.length l.c, .slice l.B l.M.length l.d] 24)).alloc
    (.cells #[.slice r.A r.L.length r.c, .slice r.B r.M.length r.d] 24)).alloc (.cells #[.slice b.A b.L.length b.c, .slice b.B b.M.length b.d, .slice l.A l.L.length l.c, .slice l.B l.M.length l.d, .slice r.A r.L.length r.c, .slice r.B r.M.length r.d] 24)) :=
    ((((Below.refl _ _).alloc (Nat.le_refl _) _).alloc (by simp) _).alloc (by simp; omega) _).alloc (by simp; omega) _
  have g1 : w.heap.size + 1 + 1 + 1 < ((((w.alloc (.cells #[.slice b.A b.L.length b.c, .slice b.B b.M.length b.d] 24)).alloc (.cells #[.slice l.A l.L.length l.c, .slice l.B l.M.length l.d] 24)).alloc
    (.cells #[.slice r.A r.L.length r.c, .slice r.B r.M.length r.d] 24)).alloc (.cells #[.slice b.A b.L.length b.c, .slice b.B b.M.length b.d, .slice l.A l.L.length l.c, .slice l.B l.M.length l.d, .slice r.A r.L.length r.c, .slice r.B r.M.length r.d] 24)).heap.size := by simp
  have SSN := Lib.hid ss
  have K := Lib.hid k
  have HG := Lib.hid hg
  clear ss hz k hg
  unfold SR.val
  go_enter Try.func4, Try.ntmps4
  go_wp2_with fail
  generalize (((w.alloc (.cells #[.slice b.A b.L.length b.c, .slice b.B b.M.length b.d] 24)).alloc (.cells #[.slice l.A l.L.length l.c, .slice l.B l.M.length l.d] 24)).alloc
    (.cells #[.slice r.A r.L.length r.c, .slice r.B r.M.length r.d] 24)).alloc (.cells #[.slice b.A b.L.length b.c, .slice b.B b.M.length b.d, .slice l.A l.L.length l.c, .slice l.B l.M.length l.d, .slice r.A r.L.length r.c, .slice r.B r.M.length r.d] 24) = W at *
  refine (great0_any [b, l, r] (w.heap.size + 1 + 1 + 1) 3 W g1 (fun s hs => by simp only [List.mem_cons, List.not_mem_nil, or_false] at hs; rcases hs with rfl | rfl | rfl; exact hb.below K.out; exact hl.below K.out; exact hr.below K.out) (by simp) (fun j hj => (SSN.out j hj).1) (fun j hj => (SSN.out j hj).2)).mono ?_
  rintro e w1 ⟨rfl, k1⟩
  rw [HG.out]
  have K1 := Lib.hid (K.out.trans (k1.mono K.out.size))
  clear k1 K SSN g1
  go_wp2_with fail
  refine (awake_any _).mono ?_
  rintro e w2 ⟨rfl, k2⟩
  have K2 := Lib.hid (K1.out.trans (k2.mono K1.out.size))
  clear k2
  go_wp2_with fail
  go_ret
  exact ⟨rfl, K2.out⟩

theorem law_triv_any (b l r : SR) (w : World) (hb : b.Rd0 w) (hl : l.Rd0 w) (hr : r.Rd0 w) :
    Calls Try.prog 4 #[b.val, l.val, r.val] w fun e w' => e = .returned (.bool true) ∧ Below w.heap.size w w' := by
  cases hg : grs [b, l, r] with
  | true => exact triv_great b l r w hb hl hr hg
  | false =>
    obtain ⟨q1, q2, q3⟩ := grs3_false hg
    by_cases h0 : chk b.L b.M = 0
    · by_cases h1 : chk l.L l.M = 0
      · by_cases h2 : chk r.L r.M = 0
        · exact triv_3 b l r w (hb.small q1) (hl.small q2) (hr.small q3) hg h0 h1 h2
        · exact triv_2 b l r w (hb.small q1) (hl.small q2) (hr.small q3) hg h0 h1 h2
      · exact triv_1 b l r w (hb.small q1) (hl.small q2) (hr.small q3) hg h0 h1
    · exact triv_0 b l r w (hb.small q1) (hl.small q2) (hr.small q3) hg h0
end Go.Proofs.Ytgenloemohcpcaa
