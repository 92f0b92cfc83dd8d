/- Walk: the statement ConflictUndo. -/
import Derived.Test.YtgenloemohcpcaaMem
import Derived.Deep.DeepCutAuto
namespace Go.Proofs.Ytgenloemohcpcaa
open Go.RowKit

theorem Mem.fill {w0 w : World} {l : List (Nat × SR)} {g : Nat} (h : Mem w0 w l) (bk : BK w g (.slice none 0 0) (.slice none 0 0)) (hg : ∀ p ∈ l, p.1 ≠ g) (h0 : w0.heap.size ≤ g) (s : SR) (hs : s.Rd w) :
    Mem w0 ((w.setCell ⟨g, 0, none⟩ (.slice s.A s.L.length s.c)).setCell ⟨g, 1, none⟩ (.slice s.B s.M.length s.d)) ((g, s) :: l) := by
  have bk2 := (bk.set0 (.slice s.A s.L.length s.c)).set1 (.slice s.B s.M.length s.d)
  have hr : ∀ A L, RD w A L → RD ((w.setCell ⟨g, 0, none⟩ (.slice s.A s.L.length s.c)).setCell ⟨g, 1, none⟩ (.slice s.B s.M.length s.d)) A L := fun A L h => (h.setSlice bk.c0 _).setSlice (bk.set0 _).c1 _
  refine ⟨(h.be.setCell (p := ⟨g, 0, none⟩) h0 _).setCell (p := ⟨g, 1, none⟩) h0 _, fun p hp => ?_⟩
  rcases List.mem_cons.1 hp with rfl | hp
  · exact ⟨bk2, hr _ _ hs.a, hr _ _ hs.b, hs.ca, hs.cb, hs.la, hs.lb⟩
  · have h1 := h.all p hp
    have hne := hg p hp
    exact ⟨(h1.1.far (p := ⟨g, 0, none⟩) hne _).far (p := ⟨g, 1, none⟩) hne _, hr _ _ h1.2.a, hr _ _ h1.2.b, h1.2.ca, h1.2.cb, h1.2.la, h1.2.lb⟩

theorem one_p {s : SR} {x : T} (h1 : s.L = [x]) (h2 : s.M = []) : s.p = one x := by unfold SR.p one; rw [h1, h2]

theorem val_one {s : SR} {x : T} (h : s.p = one x) (hx : x.length ≤ 65536) : valS s.L s.M = x ∧ valB s.L s.M = true := by
  unfold SR.p one at h
  simp only [Prod.mk.injEq] at h
  have hc : chk [x] [] = 0 := chk_zero.2 (one_ok hx)
  rw [h.1, h.2]
  simp [valS, valB, hc]

theorem val_two {s : SR} {p : List T × List T} {x : T} (h : s.p = p) (u : p.2 = [x] ∧ p.1.length = 2) (ok : Okp p) : valB s.L s.M = false ∧ sides s.L s.M = 2 := by
  subst h
  have hc : chk s.L s.M = 0 := chk_zero.2 ok
  have u1 : s.M = [x] := u.1
  have u2 : s.L.length = 2 := u.2
  refine ⟨by simp [valB, u1], ?_⟩
  simp [sides, hc, u2]

set_option maxRecDepth 100000 in
set_option maxHeartbeats 1000000 in
theorem undo_0 (x y z : T) (w : World)  (h0 : 100 < x.length) :
    Calls Try.prog 6 #[tv x, tv y, tv z] w fun e w' => e = .returned (.bool true) ∧ Below w.heap.size w w' := by
  go_enter Try.func6, Try.ntmps6
  go_wp2_with fail
  refine (awake_any _).mono ?_
  rintro e w1 ⟨rfl, k1⟩
  have K1 := Lib.hid k1
  clear k1
  go_wp2_with fail
  go_ret
  exact ⟨rfl, K1.out⟩

set_option maxRecDepth 100000 in
set_option maxHeartbeats 1000000 in
theorem undo_1 (x y z : T) (w : World) (h0 : ¬ 100 < x.length) (h1 : 100 < y.length) :
    Calls Try.prog 6 #[tv x, tv y, tv z] w fun e w' => e = .returned (.bool true) ∧ Below w.heap.size w w' := by
  go_enter Try.func6, Try.ntmps6
  go_wp2_with fail
  refine (awake_any _).mono ?_
  rintro e w1 ⟨rfl, k1⟩
  have K1 := Lib.hid k1
  clear k1
  go_wp2_with fail
  go_ret
  exact ⟨rfl, K1.out⟩

set_option maxRecDepth 100000 in
set_option maxHeartbeats 1000000 in
theorem undo_2 (x y z : T) (w : World) (h0 : ¬ 100 < x.length) (h1 : ¬ 100 < y.length) (h2 : 100 < z.length) :
    Calls Try.prog 6 #[tv x, tv y, tv z] w fun e w' => e = .returned (.bool true) ∧ Below w.heap.size w w' := by
  go_enter Try.func6, Try.ntmps6
  go_wp2_with fail
  refine (awake_any _).mono ?_
  rintro e w1 ⟨rfl, k1⟩
  have K1 := Lib.hid k1
  clear k1
  go_wp2_with fail
  go_ret
  exact ⟨rfl, K1.out⟩

set_option maxRecDepth 100000 in
set_option maxHeartbeats 1000000 in
theorem undo_3 (x y z : T) (w : World) (h0 : ¬ 100 < x.length) (h1 : ¬ 100 < y.length) (h2 : ¬ 100 < z.length) (h3 : x = y) :
    Calls Try.prog 6 #[tv x, tv y, tv z] w fun e w' => e = .returned (.bool true) ∧ Below w.heap.size w w' := by
  have q3 : (x == y) = true := by simpa using h3
  clear h3
  go_enter Try.func6, Try.ntmps6
  go_wp2_with fail
  refine (awake_any _).mono ?_
  rintro e w1 ⟨rfl, k1⟩
  have K1 := Lib.hid k1
  clear k1
  go_wp2_with fail
  go_ret
  exact ⟨rfl, K1.out⟩

set_option maxRecDepth 100000 in
set_option maxHeartbeats 1000000 in
theorem undo_4 (x y z : T) (w : World) (h0 : ¬ 100 < x.length) (h1 : ¬ 100 < y.length) (h2 : ¬ 100 < z.length) (h3 : x ≠ y) (h4 : y = z) :
    Calls Try.prog 6 #[tv x, tv y, tv z] w fun e w' => e = .returned (.bool true) ∧ Below w.heap.size w w' := by
  have q3 : (x == y) = false := by simpa using h3
  clear h3
  have q4 : (y == z) = true := by simpa using h4
  clear h4
  go_enter Try.func6, Try.ntmps6
  go_wp2_with fail
  refine (awake_any _).mono ?_
  rintro e w1 ⟨rfl, k1⟩
  have K1 := Lib.hid k1
  clear k1
  go_wp2_with fail
  go_ret
  exact ⟨rfl, K1.out⟩

set_option maxRecDepth 100000 in
set_option maxHeartbeats 1000000 in
theorem undo_5 (x y z : T) (w : World) (h0 : ¬ 100 < x.length) (h1 : ¬ 100 < y.length) (h2 : ¬ 100 < z.length) (h3 : x ≠ y) (h4 : y ≠ z) (h5 : x = z) :
    Calls Try.prog 6 #[tv x, tv y, tv z] w fun e w' => e = .returned (.bool true) ∧ Below w.heap.size w w' := by
  have q3 : (x == y) = false := by simpa using h3
  clear h3
  have q4 : (y == z) = false := by simpa using h4
  clear h4
  have q5 : (x == z) = true := by simpa using h5
  clear h5
  go_enter Try.func6, Try.ntmps6
  go_wp2_with fail
  refine (awake_any _).mono ?_
  rintro e w1 ⟨rfl, k1⟩
  have K1 := Lib.hid k1
  clear k1
  go_wp2_with fail
  go_ret
  exact ⟨rfl, K1.out⟩

end Go.Proofs.Ytgenloemohcpcaa
