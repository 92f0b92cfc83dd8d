/- Walk: the statement ConflictTrivial. -/
import Derived.Test.YtgenloemohcpcaaMem
namespace Go.Proofs.Ytgenloemohcpcaa
open Go.RowKit

set_option maxRecDepth 100000 in
set_option maxHeartbeats 4000000 in
theorem triv_0 (b l r : SR) (w : World) (hb : b.Rd w) (hl : l.Rd w) (hr : r.Rd w) (hg : grs [b, l, r] = false)  (h0 : chk b.L b.M ≠ 0) :
    Calls Try.prog 4 #[b.val, l.val, r.val] w fun e w' => e = .returned (.bool true) ∧ Below w.heap.size w w' := by
  have q0 : (chk b.L b.M != 0) = true := by simpa using h0
  clear h0
  have HG := Lib.hid hg
  clear hg
  have tr := tri_start w b l r hb hl hr
  have ss := ss_new (((w.alloc (.cells #[.slice b.A b.L.length b.c, .slice b.B b.M.length b.d] 24)).alloc (.cells #[.slice l.A l.L.length l.c, .slice l.B l.M.length l.d] 24)).alloc (.cells #[.slice r.A r.L.length r.c, .slice r.B r.M.length r.d] 24)) b l r
  have hz : (((w.alloc (.cells #[.slice b.A b.L.length b.c, .slice b.B b.M.length b.d] 24)).alloc (.cells #[.slice l.A l.L.length l.c, .slice l.B l.M.length l.d] 24)).alloc (.cells #[.slice r.A r.L.length r.c, .slice r.B r.M.length r.d] 24)).heap.size = w.heap.size + 1 + 1 + 1 := by simp
  rw [hz] at ss
  have TR := Lib.hid tr
  have SSN := Lib.hid ss
  have HZ := Lib.hid hz
  clear tr ss hz hb hl hr
  unfold SR.val
  go_enter Try.func4, Try.ntmps4
  go_wp2_with fail
  generalize (((w.alloc (.cells #[.slice b.A b.L.length b.c, .slice b.B b.M.length b.d] 24)).alloc (.cells #[.slice l.A l.L.length l.c, .slice l.B l.M.length l.d] 24)).alloc (.cells #[.slice r.A r.L.length r.c, .slice r.B r.M.length r.d] 24)) = W0 at *
  have t1 := TR.out.alloc (.cells #[.slice b.A b.L.length b.c, .slice b.B b.M.length b.d, .slice l.A l.L.length l.c, .slice l.B l.M.length l.d, .slice r.A r.L.length r.c, .slice r.B r.M.length r.d] 24)
  have g1 : w.heap.size + 1 + 1 + 1 < (W0.alloc (.cells #[.slice b.A b.L.length b.c, .slice b.B b.M.length b.d, .slice l.A l.L.length l.c, .slice l.B l.M.length l.d, .slice r.A r.L.length r.c, .slice r.B r.M.length r.d] 24)).heap.size := by
    have := HZ.out
    simp
    omega
  generalize W0.alloc (.cells #[.slice b.A b.L.length b.c, .slice b.B b.M.length b.d, .slice l.A l.L.length l.c, .slice l.B l.M.length l.d, .slice r.A r.L.length r.c, .slice r.B r.M.length r.d] 24) = W at *
  refine (great_any [b, l, r] (w.heap.size + 1 + 1 + 1) 3 W g1 (fun s hs => by simp only [List.mem_cons, List.not_mem_nil, or_false] at hs; rcases hs with rfl | rfl | rfl; exact t1.rb; exact t1.rl; exact t1.rr) (by simp) (fun j hj => (SSN.out j hj).1) (fun j hj => (SSN.out j hj).2)).mono ?_
  rintro e w1 ⟨rfl, k1⟩
  rw [HG.out]
  have m0 := Lib.hid (Mem.of_tri (t1.below k1))
  clear t1 k1 TR SSN HZ g1 HG
  have fa1 := (m0.out.bk (g := w.heap.size) (s := b) (by simp)).c0
  have fb1 := (m0.out.bk (g := w.heap.size) (s := b) (by simp)).c1
  go_wp2_with fail
  refine (check_any b.A b.B b.c b.d b.L b.M w1 (m0.out.rd (g := w.heap.size) (s := b) (by simp)).a (m0.out.rd (g := w.heap.size) (s := b) (by simp)).b (by have := (m0.out.rd (g := w.heap.size) (s := b) (by simp)).la; omega) (m0.out.rd (g := w.heap.size) (s := b) (by simp)).lb).mono ?_
  rintro e w2 ⟨rfl, k2⟩
  have m2 := Lib.hid (m0.out.below k2)
  clear fa1 fb1 k2 m0
  go_wp2_with fail
  refine (awake_any _).mono ?_
  rintro e w3 ⟨rfl, k3⟩
  have m3 := Lib.hid (m2.out.below k3)
  clear  k3 m2
  go_wp2_with fail
  go_ret
  exact ⟨rfl, m3.out.be⟩

set_option maxRecDepth 100000 in
set_option maxHeartbeats 4000000 in
theorem triv_1 (b l r : SR) (w : World) (hb : b.Rd w) (hl : l.Rd w) (hr : r.Rd w) (hg : grs [b, l, r] = false) (h0 : chk b.L b.M = 0) (h1 : chk l.L l.M ≠ 0) :
    Calls Try.prog 4 #[b.val, l.val, r.val] w fun e w' => e = .returned (.bool true) ∧ Below w.heap.size w w' := by
  have q0 : (chk b.L b.M != 0) = false := by simpa using h0
  have q1 : (chk l.L l.M != 0) = true := by simpa using h1
  clear h0 h1
  have HG := Lib.hid hg
  clear hg
  have tr := tri_start w b l r hb hl hr
  have ss := ss_new (((w.alloc (.cells #[.slice b.A b.L.length b.c, .slice b.B b.M.length b.d] 24)).alloc (.cells #[.slice l.A l.L.length l.c, .slice l.B l.M.length l.d] 24)).alloc (.cells #[.slice r.A r.L.length r.c, .slice r.B r.M.length r.d] 24)) b l r
  have hz : (((w.alloc (.cells #[.slice b.A b.L.length b.c, .slice b.B b.M.length b.d] 24)).alloc (.cells #[.slice l.A l.L.length l.c, .slice l.B l.M.length l.d] 24)).alloc (.cells #[.slice r.A r.L.length r.c, .slice r.B r.M.length r.d] 24)).heap.size = w.heap.size + 1 + 1 + 1 := by simp
  rw [hz] at ss
  have TR := Lib.hid tr
  have SSN := Lib.hid ss
  have HZ := Lib.hid hz
  clear tr ss hz hb hl hr
  unfold SR.val
  go_enter Try.func4, Try.ntmps4
  go_wp2_with fail
  generalize (((w.alloc (.cells #[.slice b.A b.L.length b.c, .slice b.B b.M.length b.d] 24)).alloc (.cells #[.slice l.A l.L.length l.c, .slice l.B l.M.length l.d] 24)).alloc (.cells #[.slice r.A r.L.length r.c, .slice r.B r.M.length r.d] 24)) = W0 at *
  have t1 := TR.out.alloc (.cells #[.slice b.A b.L.length b.c, .slice b.B b.M.length b.d, .slice l.A l.L.length l.c, .slice l.B l.M.length l.d, .slice r.A r.L.length r.c, .slice r.B r.M.length r.d] 24)
  have g1 : w.heap.size + 1 + 1 + 1 < (W0.alloc (.cells #[.slice b.A b.L.length b.c, .slice b.B b.M.length b.d, .slice l.A l.L.length l.c, .slice l.B l.M.length l.d, .slice r.A r.L.length r.c, .slice r.B r.M.length r.d] 24)).heap.size := by
    have := HZ.out
    simp
    omega
  generalize W0.alloc (.cells #[.slice b.A b.L.length b.c, .slice b.B b.M.length b.d, .slice l.A l.L.length l.c, .slice l.B l.M.length l.d, .slice r.A r.L.length r.c, .slice r.B r.M.length r.d] 24) = W at *
  refine (great_any [b, l, r] (w.heap.size + 1 + 1 + 1) 3 W g1 (fun s hs => by simp only [List.mem_cons, List.not_mem_nil, or_false] at hs; rcases hs with rfl | rfl | rfl; exact t1.rb; exact t1.rl; exact t1.rr) (by simp) (fun j hj => (SSN.out j hj).1) (fun j hj => (SSN.out j hj).2)).mono ?_
  rintro e w1 ⟨rfl, k1⟩
  rw [HG.out]
  have m0 := Lib.hid (Mem.of_tri (t1.below k1))
  clear t1 k1 TR SSN HZ g1 HG
  have fa1 := (m0.out.bk (g := w.heap.size) (s := b) (by simp)).c0
  have fb1 := (m0.out.bk (g := w.heap.size) (s := b) (by simp)).c1
  go_wp2_with fail
  refine (check_any b.A b.B b.c b.d b.L b.M w1 (m0.out.rd (g := w.heap.size) (s := b) (by simp)).a (m0.out.rd (g := w.heap.size) (s := b) (by simp)).b (by have := (m0.out.rd (g := w.heap.size) (s := b) (by simp)).la; omega) (m0.out.rd (g := w.heap.size) (s := b) (by simp)).lb).mono ?_
  rintro e w2 ⟨rfl, k2⟩
  have m2 := Lib.hid (m0.out.below k2)
  clear fa1 fb1 k2 m0
  have fa3 := (m2.out.bk (g := w.heap.size + 1) (s := l) (by simp)).c0
  have fb3 := (m2.out.bk (g := w.heap.size + 1) (s := l) (by simp)).c1
  go_wp2_with fail
  refine (check_any l.A l.B l.c l.d l.L l.M w2 (m2.out.rd (g := w.heap.size + 1) (s := l) (by simp)).a (m2.out.rd (g := w.heap.size + 1) (s := l) (by simp)).b (by have := (m2.out.rd (g := w.heap.size + 1) (s := l) (by simp)).la; omega) (m2.out.rd (g := w.heap.size + 1) (s := l) (by simp)).lb).mono ?_
  rintro e w4 ⟨rfl, k4⟩
  have m4 := Lib.hid (m2.out.below k4)
  clear fa3 fb3 k4 m2
  go_wp2_with fail
  refine (awake_any _).mono ?_
  rintro e w5 ⟨rfl, k5⟩
  have m5 := Lib.hid (m4.out.below k5)
  clear  k5 m4
  go_wp2_with fail
  go_ret
  exact ⟨rfl, m5.out.be⟩

set_option maxRecDepth 100000 in
set_option maxHeartbeats 4000000 in
theorem triv_2 (b l r : SR) (w : World) (hb : b.Rd w) (hl : l.Rd w) (hr : r.Rd w) (hg : grs [b, l, r] = false) (h0 : chk b.L b.M = 0) (h1 : chk l.L l.M = 0) (h2 : chk r.L r.M ≠ 0) :
    Calls Try.prog 4 #[b.val, l.val, r.val] w fun e w' => e = .returned (.bool true) ∧ Below w.heap.size w w' := by
  have q0 : (chk b.L b.M != 0) = false := by simpa using h0
  have q1 : (chk l.L l.M != 0) = false := by simpa using h1
  have q2 : (chk r.L r.M != 0) = true := by simpa using h2
  clear h0 h1 h2
  have HG := Lib.hid hg
  clear hg
  have tr := tri_start w b l r hb hl hr
  have ss := ss_new (((w.alloc (.cells #[.slice b.A b.L.length b.c, .slice b.B b.M.length b.d] 24)).alloc (.cells #[.slice l.A l.L.length l.c, .slice l.B l.M.length l.d] 24)).alloc (.cells #[.slice r.A r.L.length r.c, .slice r.B r.M.length r.d] 24)) b l r
  have hz : (((w.alloc (.cells #[.slice b.A b.L.length b.c, .slice b.B b.M.length b.d] 24)).alloc (.cells #[.slice l.A l.L.length l.c, .slice l.B l.M.length l.d] 24)).alloc (.cells #[.slice r.A r.L.length r.c, .slice r.B r.M.length r.d] 24)).heap.size = w.heap.size + 1 + 1 + 1 := by simp
  rw [hz] at ss
  have TR := Lib.hid tr
  have SSN := Lib.hid ss
  have HZ := Lib.hid hz
  clear tr ss hz hb hl hr
  unfold SR.val
  go_enter Try.func4, Try.ntmps4
  go_wp2_with fail
  generalize (((w.alloc (.cells #[.slice b.A b.L.length b.c, .slice b.B b.M.length b.d] 24)).alloc (.cells #[.slice l.A l.L.length l.c, .slice l.B l.M.length l.d] 24)).alloc (.cells #[.slice r.A r.L.length r.c, .slice r.B r.M.length r.d] 24)) = W0 at *
  have t1 := TR.out.alloc (.cells #[.slice b.A b.L.length b.c, .slice b.B b.M.length b.d, .slice l.A l.L.length l.c, .slice l.B l.M.length l.d, .slice r.A r.L.length r.c, .slice r.B r.M.length r.d] 24)
  have g1 : w.heap.size + 1 + 1 + 1 < (W0.alloc (.cells #[.slice b.A b.L.length b.c, .slice b.B b.M.length b.d, .slice l.A l.L.length l.c, .slice l.B l.M.length l.d, .slice r.A r.L.length r.c, .slice r.B r.M.length r.d] 24)).heap.size := by
    have := HZ.out
    simp
    omega
  generalize W0.alloc (.cells #[.slice b.A b.L.length b.c, .slice b.B b.M.length b.d, .slice l.A l.L.length l.c, .slice l.B l.M.length l.d, .slice r.A r.L.length r.c, .slice r.B r.M.length r.d] 24) = W at *
  refine (great_any [b, l, r] (w.heap.size + 1 + 1 + 1) 3 W g1 (fun s hs => by simp only [List.mem_cons, List.not_mem_nil, or_false] at hs; rcases hs with rfl | rfl | rfl; exact t1.rb; exact t1.rl; exact t1.rr) (by simp) (fun j hj => (SSN.out j hj).1) (fun j hj => (SSN.out j hj).2)).mono ?_
  rintro e w1 ⟨rfl, k1⟩
  rw [HG.out]
  have m0 := Lib.hid (Mem.of_tri (t1.below k1))
  clear t1 k1 TR SSN HZ g1 HG
  have fa1 := (m0.out.bk (g := w.heap.size) (s := b) (by simp)).c0
  have fb1 := (m0.out.bk (g := w.heap.size) (s := b) (by simp)).c1
  go_wp2_with fail
  refine (check_any b.A b.B b.c b.d b.L b.M w1 (m0.out.rd (g := w.heap.size) (s := b) (by simp)).a (m0.out.rd (g := w.heap.size) (s := b) (by simp)).b (by have := (m0.out.rd (g := w.heap.size) (s := b) (by simp)).la; omega) (m0.out.rd (g := w.heap.size) (s := b) (by simp)).lb).mono ?_
  rintro e w2 ⟨rfl, k2⟩
  have m2 := Lib.hid (m0.out.below k2)
  clear fa1 fb1 k2 m0
  have fa3 := (m2.out.bk (g := w.heap.size + 1) (s := l) (by simp)).c0
  have fb3 := (m2.out.bk (g := w.heap.size + 1) (s := l) (by simp)).c1
  go_wp2_with fail
  refine (check_any l.A l.B l.c l.d l.L l.M w2 (m2.out.rd (g := w.heap.size + 1) (s := l) (by simp)).a (m2.out.rd (g := w.heap.size + 1) (s := l) (by simp)).b (by have := (m2.out.rd (g := w.heap.size + 1) (s := l) (by simp)).la; omega) (m2.out.rd (g := w.heap.size + 1) (s := l) (by simp)).lb).mono ?_
  rintro e w4 ⟨rfl, k4⟩
  have m4 := Lib.hid (m2.out.below k4)
  clear fa3 fb3 k4 m2
  have fa5 := (m4.out.bk (g := w.heap.size + 1 + 1) (s := r) (by simp)).c0
  have fb5 := (m4.out.bk (g := w.heap.size + 1 + 1) (s := r) (by simp)).c1
  go_wp2_with fail
  refine (check_any r.A r.B r.c r.d r.L r.M w4 (m4.out.rd (g := w.heap.size + 1 + 1) (s := r) (by simp)).a (m4.out.rd (g := w.heap.size + 1 + 1) (s := r) (by simp)).b (by have := (m4.out.rd (g := w.heap.size + 1 + 1) (s := r) (by simp)).la; omega) (m4.out.rd (g := w.heap.size + 1 + 1) (s := r) (by simp)).lb).mono ?_
  rintro e w6 ⟨rfl, k6⟩
  have m6 := Lib.hid (m4.out.below k6)
  clear fa5 fb5 k6 m4
  go_wp2_with fail
  refine (awake_any _).mono ?_
  rintro e w7 ⟨rfl, k7⟩
  have m7 := Lib.hid (m6.out.below k7)
  clear  k7 m6
  go_wp2_with fail
  go_ret
  exact ⟨rfl, m7.out.be⟩

set_option maxRecDepth 100000 in
set_option maxHeartbeats 4000000 in
theorem triv_3 (b l r : SR) (w : World) (hb : b.Rd w) (hl : l.Rd w) (hr : r.Rd w) (hg : grs [b, l, r] = false) (h0 : chk b.L b.M = 0) (h1 : chk l.L l.M = 0) (h2 : chk r.L r.M = 0) :
    Calls Try.prog 4 #[b.val, l.val, r.val] w fun e w' => e = .returned (.bool true) ∧ Below w.heap.size w w' := by
  have q0 : (chk b.L b.M != 0) = false := by simpa using h0
  have q1 : (chk l.L l.M != 0) = false := by simpa using h1
  have q2 : (chk r.L r.M != 0) = false := by simpa using h2
  have okb : Okp b.p := chk_zero.1 h0
  have okl : Okp l.p := chk_zero.1 h1
  have okr : Okp r.p := chk_zero.1 h2
  obtain ⟨g1, g2, g3⟩ := grs3_false hg
  have z1 := gr_false.1 g1
  have z2 := gr_false.1 g2
  have z3 := gr_false.1 g3
  have zb : b.L.length + b.M.length ≤ 24 := by omega
  have zl : l.L.length + l.M.length ≤ 24 := by omega
  have zr : r.L.length + r.M.length ≤ 24 := by omega
  have OKB := Lib.hid okb
  have OKL := Lib.hid okl
  have OKR := Lib.hid okr
  clear h0 h1 h2 g1 g2 g3 z1 z2 z3 okb okl okr
  have HG := Lib.hid hg
  clear hg
  have tr := tri_start w b l r hb hl hr
  have ss := ss_new (((w.alloc (.cells #[.slice b.A b.L.length b.c, .slice b.B b.M.length b.d] 24)).alloc (.cells #[.slice l.A l.L.length l.c, .slice l.B l.M.length l.d] 24)).alloc (.cells #[.slice r.A r.L.length r.c, .slice r.B r.M.length r.d] 24)) b l r
  have hz : (((w.alloc (.cells #[.slice b.A b.L.length b.c, .slice b.B b.M.length b.d] 24)).alloc (.cells #[.slice l.A l.L.length l.c, .slice l.B l.M.length l.d] 24)).alloc (.cells #[.slice r.A r.L.length r.c, .slice r.B r.M.length r.d] 24)).heap.size = w.heap.size + 1 + 1 + 1 := by simp
  rw [hz] at ss
  have TR := Lib.hid tr
  have SSN := Lib.hid ss
  have HZ := Lib.hid hz
  clear tr ss hz hb hl hr
  unfold SR.val
  go_enter Try.func4, Try.ntmps4
  go_wp2_with fail
  generalize (((w.alloc (.cells #[.slice b.A b.L.length b.c, .slice b.B b.M.length b.d] 24)).alloc (.cells #[.slice l.A l.L.length l.c, .slice l.B l.M.length l.d] 24)).alloc (.cells #[.slice r.A r.L.length r.c, .slice r.B r.M.length r.d] 24)) = W0 at *
  have t1 := TR.out.alloc (.cells #[.slice b.A b.L.length b.c, .slice b.B b.M.length b.d, .slice l.A l.L.length l.c, .slice l.B l.M.length l.d, .slice r.A r.L.length r.c, .slice r.B r.M.length r.d] 24)
  have g1 : w.heap.size + 1 + 1 + 1 < (W0.alloc (.cells #[.slice b.A b.L.length b.c, .slice b.B b.M.length b.d, .slice l.A l.L.length l.c, .slice l.B l.M.length l.d, .slice r.A r.L.length r.c, .slice r.B r.M.length r.d] 24)).heap.size := by
    have := HZ.out
    simp
    omega
  generalize W0.alloc (.cells #[.slice b.A b.L.length b.c, .slice b.B b.M.length b.d, .slice l.A l.L.length l.c, .slice l.B l.M.length l.d, .slice r.A r.L.length r.c, .slice r.B r.M.length r.d] 24) = W at *
  refine (great_any [b, l, r] (w.heap.size + 1 + 1 + 1) 3 W g1 (fun s hs => by simp only [List.mem_cons, List.not_mem_nil, or_false] at hs; rcases hs with rfl | rfl | rfl; exact t1.rb; exact t1.rl; exact t1.rr) (by simp) (fun j hj => (SSN.out j hj).1) (fun j hj => (SSN.out j hj).2)).mono ?_
  rintro e w1 ⟨rfl, k1⟩
  rw [HG.out]
  have m0 := Lib.hid (Mem.of_tri (t1.below k1))
  clear t1 k1 TR SSN HZ g1 HG
  have fa1 := (m0.out.bk (g := w.heap.size) (s := b) (by simp)).c0
  have fb1 := (m0.out.bk (g := w.heap.size) (s := b) (by simp)).c1
  go_wp2_with fail
  refine (check_any b.A b.B b.c b.d b.L b.M w1 (m0.out.rd (g := w.heap.size) (s := b) (by simp)).a (m0.out.rd (g := w.heap.size) (s := b) (by simp)).b (by have := (m0.out.rd (g := w.heap.size) (s := b) (by simp)).la; omega) (m0.out.rd (g := w.heap.size) (s := b) (by simp)).lb).mono ?_
  rintro e w2 ⟨rfl, k2⟩
  have m2 := Lib.hid (m0.out.below k2)
  clear fa1 fb1 k2 m0
  have fa3 := (m2.out.bk (g := w.heap.size + 1) (s := l) (by simp)).c0
  have fb3 := (m2.out.bk (g := w.heap.size + 1) (s := l) (by simp)).c1
  go_wp2_with fail
  refine (check_any l.A l.B l.c l.d l.L l.M w2 (m2.out.rd (g := w.heap.size + 1) (s := l) (by simp)).a (m2.out.rd (g := w.heap.size + 1) (s := l) (by simp)).b (by have := (m2.out.rd (g := w.heap.size + 1) (s := l) (by simp)).la; omega) (m2.out.rd (g := w.heap.size + 1) (s := l) (by simp)).lb).mono ?_
  rintro e w4 ⟨rfl, k4⟩
  have m4 := Lib.hid (m2.out.below k4)
  clear fa3 fb3 k4 m2
  have fa5 := (m4.out.bk (g := w.heap.size + 1 + 1) (s := r) (by simp)).c0
  have fb5 := (m4.out.bk (g := w.heap.size + 1 + 1) (s := r) (by simp)).c1
  go_wp2_with fail
  refine (check_any r.A r.B r.c r.d r.L r.M w4 (m4.out.rd (g := w.heap.size + 1 + 1) (s := r) (by simp)).a (m4.out.rd (g := w.heap.size + 1 + 1) (s := r) (by simp)).b (by have := (m4.out.rd (g := w.heap.size + 1 + 1) (s := r) (by simp)).la; omega) (m4.out.rd (g := w.heap.size + 1 + 1) (s := r) (by simp)).lb).mono ?_
  rintro e w6 ⟨rfl, k6⟩
  have m6 := Lib.hid (m4.out.below k6)
  clear fa5 fb5 k6 m4
  have fa7 := (m6.out.bk (g := w.heap.size) (s := b) (by simp)).c0
  have fb7 := (m6.out.bk (g := w.heap.size) (s := b) (by simp)).c1
  have fa8 := (m6.out.bk (g := w.heap.size + 1 + 1) (s := r) (by simp)).c0
  have fb8 := (m6.out.bk (g := w.heap.size + 1 + 1) (s := r) (by simp)).c1
  go_wp2_with fail
  clear q0 q1 q2
  refine (merge_any b b r w6 (m6.out.rd (g := w.heap.size) (s := b) (by simp)) (m6.out.rd (g := w.heap.size) (s := b) (by simp)) (m6.out.rd (g := w.heap.size + 1 + 1) (s := r) (by simp)) (by omega)).mono ?_
  rintro e w9 ⟨s1, rfl, R1, E1, k9⟩
  have v1 := merge_valid OKB.out OKB.out OKR.out
  rw [v1.1]
  rw [v1.2] at E1
  rw [mrg_base_left OKB.out OKR.out] at E1
  have P1 := Lib.hid E1
  clear E1 v1
  unfold SR.val
  have m9 := Lib.hid (m6.out.below k9)
  clear fa7 fb7 fa8 fb8 k9 m6
  have fa10 := (m9.out.bk (g := w.heap.size) (s := b) (by simp)).c0
  have fb10 := (m9.out.bk (g := w.heap.size) (s := b) (by simp)).c1
  have fa11 := (m9.out.bk (g := w.heap.size + 1) (s := l) (by simp)).c0
  have fb11 := (m9.out.bk (g := w.heap.size + 1) (s := l) (by simp)).c1
  have fl12 := (m9.out.bk (g := w.heap.size) (s := b) (by simp)).lt
  have fl13 := (m9.out.bk (g := w.heap.size + 1) (s := l) (by simp)).lt
  have fl14 := (m9.out.bk (g := w.heap.size) (s := b) (by simp)).lt
  go_wp2_with fail
  have m15 := Lib.hid (m9.out.box s1 R1)
  generalize hW15 : w9.alloc (Obj.cells #[Value.slice s1.A s1.L.length s1.c, Value.slice s1.B s1.M.length s1.d] 24) = W15 at *
  clear hW15
  clear fa10 fb10 fa11 fb11 fl12 fl13 fl14 m9
  clear R1
  refine (merge_any b l b W15 (m15.out.rd (g := w.heap.size) (s := b) (by simp)) (m15.out.rd (g := w.heap.size + 1) (s := l) (by simp)) (m15.out.rd (g := w.heap.size) (s := b) (by simp)) (by omega)).mono ?_
  rintro e w16 ⟨s2, rfl, R2, E2, k16⟩
  have v2 := merge_valid OKB.out OKL.out OKB.out
  rw [v2.1]
  rw [v2.2] at E2
  rw [mrg_base_right OKL.out] at E2
  have P2 := Lib.hid E2
  clear E2 v2
  unfold SR.val
  have m16 := Lib.hid (m15.out.below k16)
  clear  k16 m15
  have fa17 := (m16.out.bk (g := w.heap.size) (s := b) (by simp)).c0
  have fb17 := (m16.out.bk (g := w.heap.size) (s := b) (by simp)).c1
  have fa18 := (m16.out.bk (g := w.heap.size + 1) (s := l) (by simp)).c0
  have fb18 := (m16.out.bk (g := w.heap.size + 1) (s := l) (by simp)).c1
  have fl19 := (m16.out.bk (g := w.heap.size) (s := b) (by simp)).lt
  have fl20 := (m16.out.bk (g := w.heap.size + 1) (s := l) (by simp)).lt
  have fl21 := (m16.out.bk (g := w.heap.size + 1) (s := l) (by simp)).lt
  go_wp2_with fail
  have m22 := Lib.hid (m16.out.box s2 R2)
  generalize hW22 : w16.alloc (Obj.cells #[Value.slice s2.A s2.L.length s2.c, Value.slice s2.B s2.M.length s2.d] 24) = W22 at *
  clear hW22
  clear fa17 fb17 fa18 fb18 fl19 fl20 fl21 m16
  clear R2
  refine (merge_any b l l W22 (m22.out.rd (g := w.heap.size) (s := b) (by simp)) (m22.out.rd (g := w.heap.size + 1) (s := l) (by simp)) (m22.out.rd (g := w.heap.size + 1) (s := l) (by simp)) (by omega)).mono ?_
  rintro e w23 ⟨s3, rfl, R3, E3, k23⟩
  have v3 := merge_valid OKB.out OKL.out OKL.out
  rw [v3.1]
  rw [v3.2] at E3
  rw [mrg_same _ _] at E3
  have P3 := Lib.hid E3
  clear E3 v3
  unfold SR.val
  have m23 := Lib.hid (m22.out.below k23)
  clear  k23 m22
  have fa24 := (m23.out.bk (g := w.heap.size) (s := b) (by simp)).c0
  have fb24 := (m23.out.bk (g := w.heap.size) (s := b) (by simp)).c1
  have fa25 := (m23.out.bk (g := w.heap.size + 1) (s := l) (by simp)).c0
  have fb25 := (m23.out.bk (g := w.heap.size + 1) (s := l) (by simp)).c1
  have fa26 := (m23.out.bk (g := w.heap.size + 1 + 1) (s := r) (by simp)).c0
  have fb26 := (m23.out.bk (g := w.heap.size + 1 + 1) (s := r) (by simp)).c1
  have fl27 := (m23.out.bk (g := w.heap.size) (s := b) (by simp)).lt
  have fl28 := (m23.out.bk (g := w.heap.size + 1) (s := l) (by simp)).lt
  have fl29 := (m23.out.bk (g := w.heap.size + 1 + 1) (s := r) (by simp)).lt
  go_wp2_with fail
  have m30 := Lib.hid (m23.out.box s3 R3)
  generalize hW30 : w23.alloc (Obj.cells #[Value.slice s3.A s3.L.length s3.c, Value.slice s3.B s3.M.length s3.d] 24) = W30 at *
  clear hW30
  clear fa24 fb24 fa25 fb25 fa26 fb26 fl27 fl28 fl29 m23
  clear R3
  refine (merge_any b l r W30 (m30.out.rd (g := w.heap.size) (s := b) (by simp)) (m30.out.rd (g := w.heap.size + 1) (s := l) (by simp)) (m30.out.rd (g := w.heap.size + 1 + 1) (s := r) (by simp)) (by omega)).mono ?_
  rintro e w31 ⟨s4, rfl, R4, E4, k31⟩
  have v4 := merge_valid OKB.out OKL.out OKR.out
  rw [v4.1]
  rw [v4.2] at E4
  have P4 := Lib.hid E4
  clear E4 v4
  unfold SR.val
  have m31 := Lib.hid (m30.out.below k31)
  clear  k31 m30
  have fa32 := (m31.out.bk (g := w.heap.size) (s := b) (by simp)).c0
  have fb32 := (m31.out.bk (g := w.heap.size) (s := b) (by simp)).c1
  have fa33 := (m31.out.bk (g := w.heap.size + 1) (s := l) (by simp)).c0
  have fb33 := (m31.out.bk (g := w.heap.size + 1) (s := l) (by simp)).c1
  have fa34 := (m31.out.bk (g := w.heap.size + 1 + 1) (s := r) (by simp)).c0
  have fb34 := (m31.out.bk (g := w.heap.size + 1 + 1) (s := r) (by simp)).c1
  have fl35 := (m31.out.bk (g := w.heap.size) (s := b) (by simp)).lt
  have fl36 := (m31.out.bk (g := w.heap.size + 1 + 1) (s := r) (by simp)).lt
  have fl37 := (m31.out.bk (g := w.heap.size + 1) (s := l) (by simp)).lt
  go_wp2_with fail
  have m38 := Lib.hid (m31.out.box s4 R4)
  generalize hW38 : w31.alloc (Obj.cells #[Value.slice s4.A s4.L.length s4.c, Value.slice s4.B s4.M.length s4.d] 24) = W38 at *
  clear hW38
  clear fa32 fb32 fa33 fb33 fa34 fb34 fl35 fl36 fl37 m31
  clear R4
  refine (merge_any b r l W38 (m38.out.rd (g := w.heap.size) (s := b) (by simp)) (m38.out.rd (g := w.heap.size + 1 + 1) (s := r) (by simp)) (m38.out.rd (g := w.heap.size + 1) (s := l) (by simp)) (by omega)).mono ?_
  rintro e w39 ⟨s5, rfl, R5, E5, k39⟩
  have v5 := merge_valid OKB.out OKR.out OKL.out
  rw [v5.1]
  rw [v5.2] at E5
  have P5 := Lib.hid E5
  clear E5 v5
  unfold SR.val
  have m39 := Lib.hid (m38.out.below k39)
  clear  k39 m38
  have fa40 := (m39.out.bk (g := w.heap.size) (s := b) (by simp)).c0
  have fb40 := (m39.out.bk (g := w.heap.size) (s := b) (by simp)).c1
  have fa41 := (m39.out.bk (g := w.heap.size + 1) (s := l) (by simp)).c0
  have fb41 := (m39.out.bk (g := w.heap.size + 1) (s := l) (by simp)).c1
  have fa42 := (m39.out.bk (g := w.heap.size + 1 + 1) (s := r) (by simp)).c0
  have fb42 := (m39.out.bk (g := w.heap.size + 1 + 1) (s := r) (by simp)).c1
  have fl43 := (m39.out.bk (g := w.heap.size) (s := b) (by simp)).lt
  have fl44 := (m39.out.bk (g := w.heap.size + 1) (s := l) (by simp)).lt
  have fl45 := (m39.out.bk (g := w.heap.size + 1 + 1) (s := r) (by simp)).lt
  have fa46 := (m39.out.bk (g := w31.heap.size) (s := s4) (by simp)).c0
  have fb46 := (m39.out.bk (g := w31.heap.size) (s := s4) (by simp)).c1
  have fl47 := (m39.out.bk (g := w31.heap.size) (s := s4) (by simp)).lt
  have fa48 := (m39.out.bk (g := w23.heap.size) (s := s3) (by simp)).c0
  have fb48 := (m39.out.bk (g := w23.heap.size) (s := s3) (by simp)).c1
  have fl49 := (m39.out.bk (g := w23.heap.size) (s := s3) (by simp)).lt
  have fa50 := (m39.out.bk (g := w16.heap.size) (s := s2) (by simp)).c0
  have fb50 := (m39.out.bk (g := w16.heap.size) (s := s2) (by simp)).c1
  have fl51 := (m39.out.bk (g := w16.heap.size) (s := s2) (by simp)).lt
  have fa52 := (m39.out.bk (g := w9.heap.size) (s := s1) (by simp)).c0
  have fb52 := (m39.out.bk (g := w9.heap.size) (s := s1) (by simp)).c1
  have fl53 := (m39.out.bk (g := w9.heap.size) (s := s1) (by simp)).lt
  go_wp2_with fail
  have m54 := Lib.hid (m39.out.box s5 R5)
  generalize hW54 : w39.alloc (Obj.cells #[Value.slice s5.A s5.L.length s5.c, Value.slice s5.B s5.M.length s5.d] 24) = W54 at *
  clear hW54
  clear fa40 fb40 fa41 fb41 fa42 fb42 fl43 fl44 fl45 fa46 fb46 fl47 fa48 fb48 fl49 fa50 fb50 fl51 fa52 fb52 fl53 m39
  clear R5
  have hss1r := Lib.hid (same_of_p (s := s1) (t := r) (P1.out))
  refine (same2_any s1.A s1.B r.A r.B s1.c s1.d r.c r.d s1.L s1.M r.L r.M W54 (m54.out.rd (g := w9.heap.size) (s := s1) (by simp)).a (m54.out.rd (g := w9.heap.size) (s := s1) (by simp)).b (m54.out.rd (g := w.heap.size + 1 + 1) (s := r) (by simp)).a (m54.out.rd (g := w.heap.size + 1 + 1) (s := r) (by simp)).b (by have := (m54.out.rd (g := w9.heap.size) (s := s1) (by simp)).la; omega) (by have := (m54.out.rd (g := w9.heap.size) (s := s1) (by simp)).lb; omega)).mono ?_
  rintro e w55 ⟨rfl, k55⟩
  rw [hss1r.out]
  have m55 := Lib.hid (m54.out.below k55)
  clear  k55 m54
  have fa56 := (m55.out.bk (g := w16.heap.size) (s := s2) (by simp)).c0
  have fb56 := (m55.out.bk (g := w16.heap.size) (s := s2) (by simp)).c1
  have fa57 := (m55.out.bk (g := w.heap.size + 1) (s := l) (by simp)).c0
  have fb57 := (m55.out.bk (g := w.heap.size + 1) (s := l) (by simp)).c1
  go_wp2_with fail
  have hss2l := Lib.hid (same_of_p (s := s2) (t := l) (P2.out))
  refine (same2_any s2.A s2.B l.A l.B s2.c s2.d l.c l.d s2.L s2.M l.L l.M w55 (m55.out.rd (g := w16.heap.size) (s := s2) (by simp)).a (m55.out.rd (g := w16.heap.size) (s := s2) (by simp)).b (m55.out.rd (g := w.heap.size + 1) (s := l) (by simp)).a (m55.out.rd (g := w.heap.size + 1) (s := l) (by simp)).b (by have := (m55.out.rd (g := w16.heap.size) (s := s2) (by simp)).la; omega) (by have := (m55.out.rd (g := w16.heap.size) (s := s2) (by simp)).lb; omega)).mono ?_
  rintro e w58 ⟨rfl, k58⟩
  rw [hss2l.out]
  have m58 := Lib.hid (m55.out.below k58)
  clear fa56 fb56 fa57 fb57 k58 m55
  have fa59 := (m58.out.bk (g := w23.heap.size) (s := s3) (by simp)).c0
  have fb59 := (m58.out.bk (g := w23.heap.size) (s := s3) (by simp)).c1
  have fa60 := (m58.out.bk (g := w.heap.size + 1) (s := l) (by simp)).c0
  have fb60 := (m58.out.bk (g := w.heap.size + 1) (s := l) (by simp)).c1
  go_wp2_with fail
  have hss3l := Lib.hid (same_of_p (s := s3) (t := l) (P3.out))
  refine (same2_any s3.A s3.B l.A l.B s3.c s3.d l.c l.d s3.L s3.M l.L l.M w58 (m58.out.rd (g := w23.heap.size) (s := s3) (by simp)).a (m58.out.rd (g := w23.heap.size) (s := s3) (by simp)).b (m58.out.rd (g := w.heap.size + 1) (s := l) (by simp)).a (m58.out.rd (g := w.heap.size + 1) (s := l) (by simp)).b (by have := (m58.out.rd (g := w23.heap.size) (s := s3) (by simp)).la; omega) (by have := (m58.out.rd (g := w23.heap.size) (s := s3) (by simp)).lb; omega)).mono ?_
  rintro e w61 ⟨rfl, k61⟩
  rw [hss3l.out]
  have m61 := Lib.hid (m58.out.below k61)
  clear fa59 fb59 fa60 fb60 k61 m58
  have fa62 := (m61.out.bk (g := w31.heap.size) (s := s4) (by simp)).c0
  have fb62 := (m61.out.bk (g := w31.heap.size) (s := s4) (by simp)).c1
  have fa63 := (m61.out.bk (g := w39.heap.size) (s := s5) (by simp)).c0
  have fb63 := (m61.out.bk (g := w39.heap.size) (s := s5) (by simp)).c1
  go_wp2_with fail
  have hss4s5 := Lib.hid (same_of_p (s := s4) (t := s5) (P4.out.trans ((mrg_comm OKL.out OKR.out).trans P5.out.symm)))
  refine (same2_any s4.A s4.B s5.A s5.B s4.c s4.d s5.c s5.d s4.L s4.M s5.L s5.M w61 (m61.out.rd (g := w31.heap.size) (s := s4) (by simp)).a (m61.out.rd (g := w31.heap.size) (s := s4) (by simp)).b (m61.out.rd (g := w39.heap.size) (s := s5) (by simp)).a (m61.out.rd (g := w39.heap.size) (s := s5) (by simp)).b (by have := (m61.out.rd (g := w31.heap.size) (s := s4) (by simp)).la; omega) (by have := (m61.out.rd (g := w31.heap.size) (s := s4) (by simp)).lb; omega)).mono ?_
  rintro e w64 ⟨rfl, k64⟩
  rw [hss4s5.out]
  have m64 := Lib.hid (m61.out.below k64)
  clear fa62 fb62 fa63 fb63 k64 m61
  have fa65 := (m64.out.bk (g := w31.heap.size) (s := s4) (by simp)).c0
  have fb65 := (m64.out.bk (g := w31.heap.size) (s := s4) (by simp)).c1
  go_wp2_with fail
  have hk : chk s4.L s4.M = 0 := by have h := mrg_ok OKB.out OKL.out OKR.out (by simp only [SR.p]; omega); rw [← P4.out] at h; exact chk_zero.2 h
  have HK := Lib.hid hk
  clear hk
  refine (check_any s4.A s4.B s4.c s4.d s4.L s4.M w64 (m64.out.rd (g := w31.heap.size) (s := s4) (by simp)).a (m64.out.rd (g := w31.heap.size) (s := s4) (by simp)).b (by have := (m64.out.rd (g := w31.heap.size) (s := s4) (by simp)).la; omega) (m64.out.rd (g := w31.heap.size) (s := s4) (by simp)).lb).mono ?_
  rintro e w66 ⟨rfl, k66⟩
  rw [HK.out]
  have m66 := Lib.hid (m64.out.below k66)
  clear fa65 fb65 k66 m64
  go_wp2_with fail
  refine (awake_any _).mono ?_
  rintro e w67 ⟨rfl, k67⟩
  have m67 := Lib.hid (m66.out.below k67)
  clear  k67 m66
  go_wp2_with fail
  go_ret
  exact ⟨rfl, m67.out.be⟩

end Go.Proofs.Ytgenloemohcpcaa
