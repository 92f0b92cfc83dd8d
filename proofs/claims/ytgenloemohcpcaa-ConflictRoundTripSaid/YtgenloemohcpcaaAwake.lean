/- Walk: the example of the chapter. -/
import Derived.Test.YtgenloemohcpcaaMerge
namespace Go.Proofs.Ytgenloemohcpcaa
open Go.RowKit

abbrev tx : T := [120]
abbrev ty : T := [121]
abbrev tz : T := [122]

theorem aw1 : mErr ([tx], []) ([ty], []) ([tz], []) = 0 ∧ mSum ([tx], []) ([ty], []) ([tz], []) = ([ty, tz], [tx]) := by decide
theorem aw2 : mErr ([tz], []) ([ty, tz], [tx]) ([tx], []) = 0 ∧ mSum ([tz], []) ([ty, tz], [tx]) ([tx], []) = ([ty], []) := by decide
theorem aw3 : valS [ty] [] = ty ∧ valB [ty] [] = true := by decide

theorem rd_two (w : World) (x y : T) (t : TypeId) : RD (w.alloc (.cells #[tv x, tv y] t)) (some ⟨w.heap.size, 0, none⟩) [x, y] := by
  refine .inr ⟨_, rfl, by simp, fun j z hj => ?_⟩
  match j, hj with
  | 0, hj =>
    simp at hj; subst hj
    rw [show (({ block := w.heap.size, off := 0 } : Addr).add 0) = ⟨w.heap.size, 0, none⟩ from rfl]
    simp [World.cell?_alloc_at]
  | 1, hj =>
    simp at hj; subst hj
    rw [show (({ block := w.heap.size, off := 0 } : Addr).add 1) = ⟨w.heap.size, 1, none⟩ from rfl]
    simp [World.cell?_alloc_at]
  | j + 2, hj => simp at hj

theorem SR.Rd.alloc {w : World} {s : SR} (h : s.Rd w) (o : Obj) : s.Rd (w.alloc o) := h.below ((Below.refl _ _).alloc (Nat.le_refl _) o)

theorem SR.len {s : SR} {x : List T × List T} (h : s.p = x) : s.L.length = x.1.length ∧ s.M.length = x.2.length := by rw [← h]; exact ⟨rfl, rfl⟩

set_option maxRecDepth 100000 in
set_option maxHeartbeats 2000000 in
theorem awake_any (w : World) : Calls Try.prog 11 #[] w fun e w' => e = .returned (.bool true) ∧ Below w.heap.size w w' := by
  go_enter Try.func11, Try.ntmps11
  go_wp2_with fail
  refine (of_any tx _).mono ?_
  rintro e w1 ⟨s1, rfl, r1, e1, e1', k1⟩
  have E1 : Hid (s1.p = ([tx], [])) := by show s1.p = _; unfold SR.p; rw [e1, e1']
  clear e1 e1'
  unfold SR.val
  go_wp2_with fail
  refine (of_any ty _).mono ?_
  rintro e w2 ⟨s2, rfl, r2, e1, e1', k2⟩
  have E2 : Hid (s2.p = ([ty], [])) := by show s2.p = _; unfold SR.p; rw [e1, e1']
  clear e1 e1'
  unfold SR.val
  go_wp2_with fail
  refine (of_any tz _).mono ?_
  rintro e w3 ⟨s3, rfl, r3, e1, e1', k3⟩
  have E3 : Hid (s3.p = ([tz], [])) := by show s3.p = _; unfold SR.p; rw [e1, e1']
  clear e1 e1'
  replace r1 := (r1.below k2).below k3
  replace r2 := r2.below k3
  have K3 := Lib.hid ((k1.trans (k2.mono k1.size)).trans (k3.mono (Nat.le_trans k1.size k2.size)))
  clear k1 k2 k3
  unfold SR.val
  go_wp2_with fail
  have b3 : BK (((w3.alloc (Obj.cells #[Value.slice s1.A s1.L.length s1.c, Value.slice s1.B s1.M.length s1.d] 24)).alloc (Obj.cells #[Value.slice s2.A s2.L.length s2.c, Value.slice s2.B s2.M.length s2.d] 24)).alloc (Obj.cells #[Value.slice s3.A s3.L.length s3.c, Value.slice s3.B s3.M.length s3.d] 24)) (w3.heap.size + 1 + 1) (Value.slice s3.A s3.L.length s3.c) (Value.slice s3.B s3.M.length s3.d) := by
    have := BK.new ((w3.alloc (Obj.cells #[Value.slice s1.A s1.L.length s1.c, Value.slice s1.B s1.M.length s1.d] 24)).alloc (Obj.cells #[Value.slice s2.A s2.L.length s2.c, Value.slice s2.B s2.M.length s2.d] 24)) (Value.slice s3.A s3.L.length s3.c) (Value.slice s3.B s3.M.length s3.d)
    simpa using this
  have b1 := ((BK.new w3 (Value.slice s1.A s1.L.length s1.c) (Value.slice s1.B s1.M.length s1.d)).alloc (Obj.cells #[Value.slice s2.A s2.L.length s2.c, Value.slice s2.B s2.M.length s2.d] 24)).alloc (Obj.cells #[Value.slice s3.A s3.L.length s3.c, Value.slice s3.B s3.M.length s3.d] 24)
  have k4 : Below w3.heap.size w3 (((w3.alloc (Obj.cells #[Value.slice s1.A s1.L.length s1.c, Value.slice s1.B s1.M.length s1.d] 24)).alloc (Obj.cells #[Value.slice s2.A s2.L.length s2.c, Value.slice s2.B s2.M.length s2.d] 24)).alloc (Obj.cells #[Value.slice s3.A s3.L.length s3.c, Value.slice s3.B s3.M.length s3.d] 24)) :=
    (((Below.refl _ _).alloc (Nat.le_refl _) _).alloc (by simp) _).alloc (by simp; omega) _
  generalize ((w3.alloc (Obj.cells #[Value.slice s1.A s1.L.length s1.c, Value.slice s1.B s1.M.length s1.d] 24)).alloc (Obj.cells #[Value.slice s2.A s2.L.length s2.c, Value.slice s2.B s2.M.length s2.d] 24)).alloc (Obj.cells #[Value.slice s3.A s3.L.length s3.c, Value.slice s3.B s3.M.length s3.d] 24) = W at *
  replace r1 := r1.below k4
  replace r2 := r2.below k4
  replace r3 := r3.below k4
  have K4 := Lib.hid (K3.out.trans (k4.mono K3.out.size))
  clear k4 K3
  refine (merge_any s1 s2 s3 W r1 r2 r3 (by have h1 := SR.len E1.out; have h2 := SR.len E2.out; have h3 := SR.len E3.out; simp only [List.length_cons, List.length_nil] at h1 h2 h3; omega)).mono ?_
  rintro e w4 ⟨s4, rfl, r4, e4, k4⟩
  rw [E1.out, E2.out, E3.out, aw1.2] at e4
  rw [E1.out, E2.out, E3.out, aw1.1]
  have E4 := Lib.hid e4
  replace b1 := b1.below k4 b1.lt
  replace b3 := b3.below k4 b3.lt
  replace r1 := r1.below k4
  replace r3 := r3.below k4
  have K5 := Lib.hid (K4.out.trans (k4.mono K4.out.size))
  have f1 := b1.c0
  have f2 := b1.c1
  have f3 := b3.c0
  have f4 := b3.c1
  have l1 := b1.lt
  have l3 := b3.lt
  clear e4 k4 K4 r2 E2 b1 b3
  unfold SR.val
  go_wp2_with fail
  have b4 := BK.new w4 (Value.slice s4.A s4.L.length s4.c) (Value.slice s4.B s4.M.length s4.d)
  have k5 : Below w4.heap.size w4 (w4.alloc (Obj.cells #[Value.slice s4.A s4.L.length s4.c, Value.slice s4.B s4.M.length s4.d] 24)) := (Below.refl _ _).alloc (Nat.le_refl _) _
  generalize w4.alloc (Obj.cells #[Value.slice s4.A s4.L.length s4.c, Value.slice s4.B s4.M.length s4.d] 24) = W5 at *
  replace r1 := r1.below k5
  replace r3 := r3.below k5
  replace r4 := r4.below k5
  have K6 := Lib.hid (K5.out.trans (k5.mono K5.out.size))
  clear k5 K5 f1 f2 f3 f4 l1 l3
  refine (merge_any s3 s4 s1 W5 r3 r4 r1 (by have h1 := SR.len E1.out; have h2 := SR.len E4.out; have h3 := SR.len E3.out; simp only [List.length_cons, List.length_nil] at h1 h2 h3; omega)).mono ?_
  rintro e w6 ⟨s6, rfl, r6, e6, k6⟩
  rw [E1.out, E4.out, E3.out, aw2.2] at e6
  rw [E1.out, E4.out, E3.out, aw2.1]
  have E6 := Lib.hid e6
  replace b4 := b4.below k6 b4.lt
  replace r4 := r4.below k6
  have K7 := Lib.hid (K6.out.trans (k6.mono K6.out.size))
  have l4 := b4.lt
  clear e6 k6 K6 r1 r3 E1 E3
  unfold SR.val
  go_wp2_with fail
  have k7 : Below w6.heap.size w6 (w6.alloc (Obj.cells #[Value.slice s6.A s6.L.length s6.c, Value.slice s6.B s6.M.length s6.d] 24)) := (Below.refl _ _).alloc (Nat.le_refl _) _
  generalize w6.alloc (Obj.cells #[Value.slice s6.A s6.L.length s6.c, Value.slice s6.B s6.M.length s6.d] 24) = W7 at *
  replace r4 := r4.below k7
  replace r6 := r6.below k7
  replace b4 := b4.below k7 b4.lt
  have K8 := Lib.hid (K7.out.trans (k7.mono K7.out.size))
  clear k7 K7 l4
  refine (value_any s6.A s6.B s6.c s6.d s6.L s6.M W7 r6.a r6.b (by have := r6.la; omega) r6.lb).mono ?_
  rintro e w8 ⟨rfl, k8⟩
  have q6 : s6.L = [ty] ∧ s6.M = [] := by have := E6.out; unfold SR.p at this; simpa using this
  rw [q6.1, q6.2, aw3.1, aw3.2]
  replace r4 := r4.below k8
  replace b4 := b4.below k8 b4.lt
  have K9 := Lib.hid (K8.out.trans (k8.mono K8.out.size))
  have f1 := b4.c0
  have f2 := b4.c1
  clear q6 k8 K8 r6 E6 b4
  go_wp2_with fail
  have q1 := (rd_two w8 ty tz 9).alloc (Obj.cells #[tv tx] 9)
  have q2 : RD ((w8.alloc (Obj.cells #[tv ty, tv tz] 9)).alloc (Obj.cells #[tv tx] 9)) (some ⟨w8.heap.size + 1, 0, none⟩) [tx] := by
    have := rd_one (w8.alloc (Obj.cells #[tv ty, tv tz] 9)) tx 9
    simpa using this
  have hs : same2 s4.L s4.M [ty, tz] [tx] = true := by
    have := E4.out
    unfold SR.p at this
    simp only [Prod.mk.injEq] at this
    simp [same2, this.1, this.2]
  have HS := Lib.hid hs
  clear hs
  refine (same2_any s4.A s4.B (some ⟨w8.heap.size, 0, none⟩) (some ⟨w8.heap.size + 1, 0, none⟩) s4.c s4.d 2 1 s4.L s4.M [ty, tz] [tx] _ ((r4.alloc _).alloc _).a ((r4.alloc _).alloc _).b q1 q2 (by have := r4.la; omega) (by have := r4.lb; omega)).mono ?_
  rintro e w9 ⟨rfl, k9⟩
  rw [HS.out]
  have K10 := Lib.hid (((K9.out.alloc K9.out.size _).alloc (by have := K9.out.size; simp; omega) _).trans (k9.mono (by have := K9.out.size; simp; omega)))
  clear k9 K9 f1 f2 q1 q2
  go_wp2_with fail
  go_ret
  exact ⟨rfl, K10.out⟩
end Go.Proofs.Ytgenloemohcpcaa
