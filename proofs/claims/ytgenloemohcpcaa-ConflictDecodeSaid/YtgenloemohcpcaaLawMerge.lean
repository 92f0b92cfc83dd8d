/- Walk: the statement ConflictMerge. -/
import Derived.Test.YtgenloemohcpcaaGr0
namespace Go.Proofs.Ytgenloemohcpcaa
open Go.RowKit

/-- Three sums in their boxes. -/
structure Tri (w0 w : World) (b l r : SR) : Prop where
  b0 : BK w w0.heap.size (.slice b.A b.L.length b.c) (.slice b.B b.M.length b.d)
  b1 : BK w (w0.heap.size + 1) (.slice l.A l.L.length l.c) (.slice l.B l.M.length l.d)
  b2 : BK w (w0.heap.size + 1 + 1) (.slice r.A r.L.length r.c) (.slice r.B r.M.length r.d)
  rb : b.Rd w
  rl : l.Rd w
  rr : r.Rd w
  be : Below w0.heap.size w0 w

theorem Tri.below {w0 w w' : World} {b l r : SR} (h : Tri w0 w b l r) (hb : Below w.heap.size w w') : Tri w0 w' b l r :=
  ⟨h.b0.below hb h.b0.lt, h.b1.below hb h.b1.lt, h.b2.below hb h.b2.lt, h.rb.below hb, h.rl.below hb, h.rr.below hb, h.be.trans (hb.mono h.be.size)⟩
theorem Tri.alloc {w0 w : World} {b l r : SR} (h : Tri w0 w b l r) (o : Obj) : Tri w0 (w.alloc o) b l r := h.below ((Below.refl _ _).alloc (Nat.le_refl _) o)

theorem tri_start (w : World) (b l r : SR) (hb : b.Rd w) (hl : l.Rd w) (hr : r.Rd w) : Tri w (((w.alloc (.cells #[.slice b.A b.L.length b.c, .slice b.B b.M.length b.d] 24)).alloc (.cells #[.slice l.A l.L.length l.c, .slice l.B l.M.length l.d] 24)).alloc
    (.cells #[.slice r.A r.L.length r.c, .slice r.B r.M.length r.d] 24)) b l r := by
  have k : Below w.heap.size w (((w.alloc (.cells #[.slice b.A b.L.length b.c, .slice b.B b.M.length b.d] 24)).alloc (.cells #[.slice l.A l.L.length l.c, .slice l.B l.M.length l.d] 24)).alloc
    (.cells #[.slice r.A r.L.length r.c, .slice r.B r.M.length r.d] 24)) := (((Below.refl _ _).alloc (Nat.le_refl _) _).alloc (by simp) _).alloc (by simp; omega) _
  refine ⟨((BK.new w _ _).alloc _).alloc _, ?_, ?_, hb.below k, hl.below k, hr.below k, k⟩
  · have := (BK.new (w.alloc (.cells #[.slice b.A b.L.length b.c, .slice b.B b.M.length b.d] 24)) (.slice l.A l.L.length l.c) (.slice l.B l.M.length l.d)).alloc (.cells #[.slice r.A r.L.length r.c, .slice r.B r.M.length r.d] 24)
    simpa using this
  · have := BK.new ((w.alloc (.cells #[.slice b.A b.L.length b.c, .slice b.B b.M.length b.d] 24)).alloc (.cells #[.slice l.A l.L.length l.c, .slice l.B l.M.length l.d] 24)) (.slice r.A r.L.length r.c) (.slice r.B r.M.length r.d)
    simpa using this

theorem grs3_false {b l r : SR} (h : grs [b, l, r] = false) : gr b.L b.M = false ∧ gr l.L l.M = false ∧ gr r.L r.M = false := by
  simpa [grs] using h

set_option maxRecDepth 100000 in
set_option maxHeartbeats 2000000 in
theorem law_merge (b l r : SR) (w : World) (hb : b.Rd w) (hl : l.Rd w) (hr : r.Rd w) :
    Calls Try.prog 3 #[b.val, l.val, r.val] w fun e w' => e = .returned (.bool true) ∧ Below w.heap.size w w' := by
  have tr := tri_start w b l r hb hl hr
  have ss := ss_new (((w.alloc (.cells #[.slice b.A b.L.length b.c, .slice b.B b.M.length b.d] 24)).alloc (.cells #[.slice l.A l.L.length l.c, .slice l.B l.M.length l.d] 24)).alloc (.cells #[.slice r.A r.L.length r.c, .slice r.B r.M.length r.d] 24)) b l r
  have hz : (((w.alloc (.cells #[.slice b.A b.L.length b.c, .slice b.B b.M.length b.d] 24)).alloc (.cells #[.slice l.A l.L.length l.c, .slice l.B l.M.length l.d] 24)).alloc (.cells #[.slice r.A r.L.length r.c, .slice r.B r.M.length r.d] 24)).heap.size = w.heap.size + 1 + 1 + 1 := by simp
  rw [hz] at ss
  have TR := Lib.hid tr
  have SSN := Lib.hid ss
  have HZ := Lib.hid hz
  clear tr ss hz hb hl hr
  unfold SR.val
  go_enter Try.func3, Try.ntmps3
  go_wp2_with fail
  generalize ((w.alloc (.cells #[.slice b.A b.L.length b.c, .slice b.B b.M.length b.d] 24)).alloc (.cells #[.slice l.A l.L.length l.c, .slice l.B l.M.length l.d] 24)).alloc (.cells #[.slice r.A r.L.length r.c, .slice r.B r.M.length r.d] 24) = W0 at *
  have t1 := TR.out.alloc (.cells #[.slice b.A b.L.length b.c, .slice b.B b.M.length b.d, .slice l.A l.L.length l.c, .slice l.B l.M.length l.d, .slice r.A r.L.length r.c, .slice r.B r.M.length r.d] 24)
  have g1 : w.heap.size + 1 + 1 + 1 < (W0.alloc (.cells #[.slice b.A b.L.length b.c, .slice b.B b.M.length b.d, .slice l.A l.L.length l.c, .slice l.B l.M.length l.d, .slice r.A r.L.length r.c, .slice r.B r.M.length r.d] 24)).heap.size := by
    have := HZ.out
    simp
    omega
  generalize W0.alloc (.cells #[.slice b.A b.L.length b.c, .slice b.B b.M.length b.d, .slice l.A l.L.length l.c, .slice l.B l.M.length l.d, .slice r.A r.L.length r.c, .slice r.B r.M.length r.d] 24) = W at *
  refine (great_any [b, l, r] (w.heap.size + 1 + 1 + 1) 3 W g1 (fun s hs => by simp only [List.mem_cons, List.not_mem_nil, or_false] at hs; rcases hs with rfl | rfl | rfl; exact t1.rb; exact t1.rl; exact t1.rr) (by simp) (fun j hj => (SSN.out j hj).1) (fun j hj => (SSN.out j hj).2)).mono ?_
  rintro e w1 ⟨rfl, k1⟩
  have t2 := t1.below k1
  clear t1 k1 TR SSN HZ g1
  cases hg : grs [b, l, r] with
  | true =>
    have T2 := Lib.hid t2
    clear hg t2
    go_wp2_with fail
    refine (awake_any _).mono ?_
    rintro e w2 ⟨rfl, k2⟩
    have K := Lib.hid (T2.out.be.trans (k2.mono T2.out.be.size))
    clear k2
    go_wp2_with fail
    go_ret
    exact ⟨rfl, K.out⟩
  | false =>
    obtain ⟨q1, q2, q3⟩ := grs3_false hg
    have z1 := gr_false.1 q1
    have z2 := gr_false.1 q2
    have z3 := gr_false.1 q3
    have hsz : b.L.length + b.M.length + l.L.length + l.M.length + r.L.length + r.M.length ≤ 900 := by omega
    clear q1 q2 q3 z1 z2 z3 hg
    have f0 := t2.b0.c0
    have f1 := t2.b0.c1
    have f2 := t2.b1.c0
    have f3 := t2.b1.c1
    have f4 := t2.b2.c0
    have f5 := t2.b2.c1
    have T2 := Lib.hid t2
    clear t2
    go_wp2_with fail
    refine (merge_any b l r w1 T2.out.rb T2.out.rl T2.out.rr hsz).mono ?_
    rintro e w2 ⟨s2, rfl, r2, e2, k2⟩
    have t3 := T2.out.below k2
    clear f0 f1 f2 f3 f4 f5 k2 T2
    have f0 := t3.b0.c0
    have f1 := t3.b0.c1
    have f2 := t3.b1.c0
    have f3 := t3.b1.c1
    have f4 := t3.b2.c0
    have f5 := t3.b2.c1
    have l0 := t3.b0.lt
    have l1 := t3.b1.lt
    have l2 := t3.b2.lt
    have T3 := Lib.hid t3
    have E2 := Lib.hid e2
    clear t3 e2
    unfold SR.val
    go_wp2_with fail
    have b7 := BK.new w2 (Value.slice s2.A s2.L.length s2.c) (Value.slice s2.B s2.M.length s2.d)
    have t4 := T3.out.alloc (Obj.cells #[Value.slice s2.A s2.L.length s2.c, Value.slice s2.B s2.M.length s2.d] 24)
    have r3 := r2.alloc (Obj.cells #[Value.slice s2.A s2.L.length s2.c, Value.slice s2.B s2.M.length s2.d] 24)
    generalize w2.alloc (Obj.cells #[Value.slice s2.A s2.L.length s2.c, Value.slice s2.B s2.M.length s2.d] 24) = W2 at *
    refine (rmerge_any b l r W2 t4.rb t4.rl t4.rr hsz).mono ?_
    rintro e w3 ⟨s3, rfl, r4, e3, k3⟩
    replace r3 := r3.below k3
    replace b7 := b7.below k3 b7.lt
    have t5 := t4.below k3
    have E3 := Lib.hid e3
    have T5 := Lib.hid t5
    have f6 := b7.c0
    have f7 := b7.c1
    have l7 := b7.lt
    clear f0 f1 f2 f3 f4 f5 l0 l1 l2 T3 t4 t5 k3 e3 r2 b7
    unfold SR.val
    go_wp2_with fail
    have hs : same2 s2.L s2.M s3.L s3.M = true := by
      have h := E2.out.trans E3.out.symm
      unfold SR.p at h
      simp only [Prod.mk.injEq] at h
      simp [same2, h.1, h.2]
    have HS := Lib.hid hs
    clear hs
    refine (same2_any s2.A s2.B s3.A s3.B s2.c s2.d s3.c s3.d s2.L s2.M s3.L s3.M _ (r3.alloc _).a (r3.alloc _).b (r4.alloc _).a (r4.alloc _).b (by have := r3.la; omega) (by have := r3.lb; omega)).mono ?_
    rintro e w4 ⟨rfl, k4⟩
    rw [HS.out]
    have t6 := (T5.out.alloc (Obj.cells #[Value.slice s3.A s3.L.length s3.c, Value.slice s3.B s3.M.length s3.d] 24)).below k4
    have T6 := Lib.hid t6
    clear f6 f7 l7 T5 k4 t6 r3 r4
    go_wp2_with fail
    refine (awake_any _).mono ?_
    rintro e w5 ⟨rfl, k5⟩
    have K := Lib.hid (T6.out.be.trans (k5.mono T6.out.be.size))
    clear k5
    go_wp2_with fail
    go_ret
    exact ⟨rfl, K.out⟩

set_option maxRecDepth 100000 in
set_option maxHeartbeats 1000000 in
theorem law_merge_great (b l r : SR) (w : World) (hb : b.Rd0 w) (hl : l.Rd0 w) (hr : r.Rd0 w) (hg : grs [b, l, r] = true) :
    Calls Try.prog 3 #[b.val, l.val, r.val] w fun e w' => e = .returned (.bool true) ∧ Below w.heap.size w w' := by
  have ss := ss_new (((w.alloc (.cells #[.slice b.A b.L.length b.c, .slice b.B b.M.length b.d] 24)).alloc (.cells #[.slice l.A l.L.length l.c, .slice l.B l.M.length l.d] 24)).alloc (.cells #[.slice r.A r.L.length r.c, .slice r.B r.M.length r.d] 24)) b l r
  have hz : (((w.alloc (.cells #[.slice b.A b.L.length b.c, .slice b.B b.M.length b.d] 24)).alloc (.cells #[.slice l.A l.L.length l.c, .slice l.B l.M.length l.d] 24)).alloc (.cells #[.slice r.A r.L.length r.c, .slice r.B r.M.length r.d] 24)).heap.size = w.heap.size + 1 + 1 + 1 := by simp
  rw [hz] at ss
  have k : Below w.heap.size w ((((w.alloc (.cells #[.slice b.A b.L.length b.c, .slice b.B b.M.length b.d] 24)).alloc (.cells #[.slice l.A l.L.length l.c, .slice l.B l.M.length l.d] 24)).alloc
    (.cells #[.slice r.A r.L.length r.c, .slice r.B r.M.length r.d] 24)).alloc (.cells #[.slice b.A b.L.length b.c, .slice b.B b.M.length b.d, .slice l.A l.L.length l.c, .slice l.B l.M.length l.d, .slice r.A r.L.length r.c, .slice r.B r.M.length r.d] 24)) :=
    ((((Below.refl _ _).alloc (Nat.le_refl _) _).alloc (by simp) _).alloc (by simp; omega) _).alloc (by simp; omega) _
  have g1 : w.heap.size + 1 + 1 + 1 < ((((w.alloc (.cells #[.slice b.A b.L.length b.c, .slice b.B b.M.length b.d] 24)).alloc (.cells #[.slice l.A l.L.length l.c, .slice l.B l.M.length l.d] 24)).alloc
    (.cells #[.slice r.A r.L.length r.c, .slice r.B r.M.length r.d] 24)).alloc (.cells #[.slice b.A b.L.length b.c, .slice b.B b.M.length b.d, .slice l.A l.L.length l.c, .slice l.B l.M.length l.d, .slice r.A r.L.length r.c, .slice r.B r.M.length r.d] 24)).heap.size := by simp
  have SSN := Lib.hid ss
  have K := Lib.hid k
  have HG := Lib.hid hg
  clear ss hz k hg
  unfold SR.val
  go_enter Try.func3, Try.ntmps3
  go_wp2_with fail
  generalize (((w.alloc (.cells #[.slice b.A b.L.length b.c, .slice b.B b.M.length b.d] 24)).alloc (.cells #[.slice l.A l.L.length l.c, .slice l.B l.M.length l.d] 24)).alloc
    (.cells #[.slice r.A r.L.length r.c, .slice r.B r.M.length r.d] 24)).alloc (.cells #[.slice b.A b.L.length b.c, .slice b.B b.M.length b.d, .slice l.A l.L.length l.c, .slice l.B l.M.length l.d, .slice r.A r.L.length r.c, .slice r.B r.M.length r.d] 24) = W at *
  refine (great0_any [b, l, r] (w.heap.size + 1 + 1 + 1) 3 W g1 (fun s hs => by simp only [List.mem_cons, List.not_mem_nil, or_false] at hs; rcases hs with rfl | rfl | rfl; exact hb.below K.out; exact hl.below K.out; exact hr.below K.out) (by simp) (fun j hj => (SSN.out j hj).1) (fun j hj => (SSN.out j hj).2)).mono ?_
  rintro e w1 ⟨rfl, k1⟩
  rw [HG.out]
  have K1 := Lib.hid (K.out.trans (k1.mono K.out.size))
  clear k1 K SSN g1
  go_wp2_with fail
  refine (awake_any _).mono ?_
  rintro e w2 ⟨rfl, k2⟩
  have K2 := Lib.hid (K1.out.trans (k2.mono K1.out.size))
  clear k2
  go_wp2_with fail
  go_ret
  exact ⟨rfl, K2.out⟩

theorem law_merge_any (b l r : SR) (w : World) (hb : b.Rd0 w) (hl : l.Rd0 w) (hr : r.Rd0 w) :
    Calls Try.prog 3 #[b.val, l.val, r.val] w fun e w' => e = .returned (.bool true) ∧ Below w.heap.size w w' := by
  cases hg : grs [b, l, r] with
  | true => exact law_merge_great b l r w hb hl hr hg
  | false =>
    obtain ⟨q1, q2, q3⟩ := grs3_false hg
    exact law_merge b l r w (hb.small q1) (hl.small q2) (hr.small q3)
end Go.Proofs.Ytgenloemohcpcaa
