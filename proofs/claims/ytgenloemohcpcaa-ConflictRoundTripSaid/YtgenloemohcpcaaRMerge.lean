/- Walk of the reference's Merge. -/
import Derived.Test.YtgenloemohcpcaaAdd
namespace Go.Proofs.Ytgenloemohcpcaa
open Go.RowKit

/-- The sum of a record. -/
def SR.p (s : SR) : List T × List T := (s.L, s.M)
/-- The error of Merge for sums that are not too great. -/
def mErr (b l r : List T × List T) : Int := if chk b.1 b.2 ≠ 0 then chk b.1 b.2 else if chk l.1 l.2 ≠ 0 then chk l.1 l.2 else if chk r.1 r.2 ≠ 0 then chk r.1 r.2 else 0
def mSum (b l r : List T × List T) : List T × List T := if mErr b l r ≠ 0 then ([], []) else mrg b l r

def MergePost (b l r : List T × List T) (w : World) (e : Ending) (w' : World) : Prop :=
  ∃ s : SR, e = .returned (.tuple #[s.val, .int .i64 (mErr b l r)]) ∧ s.Rd w' ∧ s.p = mSum b l r ∧ Below w.heap.size w w'

theorem mErr1 {b l r : List T × List T} (h : chk b.1 b.2 ≠ 0) : mErr b l r = chk b.1 b.2 ∧ mSum b l r = ([], []) := by
  have e : mErr b l r = chk b.1 b.2 := by unfold mErr; rw [if_pos h]
  exact ⟨e, by unfold mSum; rw [e, if_pos h]⟩
theorem mErr2 {b l r : List T × List T} (h1 : chk b.1 b.2 = 0) (h : chk l.1 l.2 ≠ 0) : mErr b l r = chk l.1 l.2 ∧ mSum b l r = ([], []) := by
  have e : mErr b l r = chk l.1 l.2 := by unfold mErr; rw [if_neg (by simpa using h1), if_pos h]
  exact ⟨e, by unfold mSum; rw [e, if_pos h]⟩
theorem mErr3 {b l r : List T × List T} (h1 : chk b.1 b.2 = 0) (h2 : chk l.1 l.2 = 0) (h : chk r.1 r.2 ≠ 0) : mErr b l r = chk r.1 r.2 ∧ mSum b l r = ([], []) := by
  have e : mErr b l r = chk r.1 r.2 := by unfold mErr; rw [if_neg (by simpa using h1), if_neg (by simpa using h2), if_pos h]
  exact ⟨e, by unfold mSum; rw [e, if_pos h]⟩
theorem mErr0 {b l r : List T × List T} (h1 : chk b.1 b.2 = 0) (h2 : chk l.1 l.2 = 0) (h3 : chk r.1 r.2 = 0) : mErr b l r = 0 ∧ mSum b l r = mrg b l r := by
  have e : mErr b l r = 0 := by unfold mErr; rw [if_neg (by simpa using h1), if_neg (by simpa using h2), if_neg (by simpa using h3)]
  exact ⟨e, by unfold mSum; rw [e, if_neg (by simp)]⟩

/-- The zero sum in memory. -/
def sr0 : SR := ⟨none, none, 0, 0, [], []⟩
theorem sr0_rd (w : World) : sr0.Rd w := ⟨.inl rfl, .inl rfl, by simp [sr0], by simp [sr0], by simp [sr0], by simp [sr0]⟩

/-- Three sums in their boxes, and the result's place. -/
structure Box (w0 w : World) (b l r : SR) : Prop where
  b0 : BK w w0.heap.size (.slice b.A b.L.length b.c) (.slice b.B b.M.length b.d)
  b1 : BK w (w0.heap.size + 1) (.slice l.A l.L.length l.c) (.slice l.B l.M.length l.d)
  b2 : BK w (w0.heap.size + 1 + 1) (.slice r.A r.L.length r.c) (.slice r.B r.M.length r.d)
  b3 : BK w (w0.heap.size + 1 + 1 + 1) (.slice none 0 0) (.slice none 0 0)
  rb : b.Rd w
  rl : l.Rd w
  rr : r.Rd w
  be : Below w0.heap.size w0 w

theorem Box.below {w0 w w' : World} {b l r : SR} (h : Box w0 w b l r) (hb : Below w.heap.size w w') : Box w0 w' b l r :=
  ⟨h.b0.below hb h.b0.lt, h.b1.below hb h.b1.lt, h.b2.below hb h.b2.lt, h.b3.below hb h.b3.lt, h.rb.below hb, h.rl.below hb, h.rr.below hb, h.be.trans (hb.mono h.be.size)⟩

theorem box_start (w : World) (b l r : SR) (hb : b.Rd w) (hl : l.Rd w) (hr : r.Rd w) : Box w ((((w.alloc (.cells #[.slice b.A b.L.length b.c, .slice b.B b.M.length b.d] 24)).alloc (.cells #[.slice l.A l.L.length l.c, .slice l.B l.M.length l.d] 24)).alloc
    (.cells #[.slice r.A r.L.length r.c, .slice r.B r.M.length r.d] 24)).alloc (.cells #[.slice none 0 0, .slice none 0 0] 24)) b l r := by
  have k : Below w.heap.size w ((((w.alloc (.cells #[.slice b.A b.L.length b.c, .slice b.B b.M.length b.d] 24)).alloc (.cells #[.slice l.A l.L.length l.c, .slice l.B l.M.length l.d] 24)).alloc
    (.cells #[.slice r.A r.L.length r.c, .slice r.B r.M.length r.d] 24)).alloc (.cells #[.slice none 0 0, .slice none 0 0] 24)) :=
    ((((Below.refl _ _).alloc (Nat.le_refl _) _).alloc (by simp) _).alloc (by simp; omega) _).alloc (by simp; omega) _
  refine ⟨(((BK.new w _ _).alloc _).alloc _).alloc _, ?_, ?_, ?_, hb.below k, hl.below k, hr.below k, k⟩
  · have := ((BK.new (w.alloc (.cells #[.slice b.A b.L.length b.c, .slice b.B b.M.length b.d] 24)) (.slice l.A l.L.length l.c) (.slice l.B l.M.length l.d)).alloc (.cells #[.slice r.A r.L.length r.c, .slice r.B r.M.length r.d] 24)).alloc (.cells #[.slice none 0 0, .slice none 0 0] 24)
    simpa using this
  · have := (BK.new ((w.alloc (.cells #[.slice b.A b.L.length b.c, .slice b.B b.M.length b.d] 24)).alloc (.cells #[.slice l.A l.L.length l.c, .slice l.B l.M.length l.d] 24)) (.slice r.A r.L.length r.c) (.slice r.B r.M.length r.d)).alloc (.cells #[.slice none 0 0, .slice none 0 0] 24)
    simpa using this
  · have := BK.new (((w.alloc (.cells #[.slice b.A b.L.length b.c, .slice b.B b.M.length b.d] 24)).alloc (.cells #[.slice l.A l.L.length l.c, .slice l.B l.M.length l.d] 24)).alloc (.cells #[.slice r.A r.L.length r.c, .slice r.B r.M.length r.d] 24)) (.slice none 0 0) (.slice none 0 0)
    simpa using this

theorem box_ret {w0 w : World} {b l r : SR} (h : Box w0 w b l r) (x y : Value) :
    ((w.setCell ⟨w0.heap.size + 1 + 1 + 1, 0, none⟩ x).setCell ⟨w0.heap.size + 1 + 1 + 1, 1, none⟩ y).cell? ⟨w0.heap.size + 1 + 1 + 1, 0, none⟩ = some x ∧
    ((w.setCell ⟨w0.heap.size + 1 + 1 + 1, 0, none⟩ x).setCell ⟨w0.heap.size + 1 + 1 + 1, 1, none⟩ y).cell? ⟨w0.heap.size + 1 + 1 + 1, 1, none⟩ = some y ∧
    Below w0.heap.size w0 ((w.setCell ⟨w0.heap.size + 1 + 1 + 1, 0, none⟩ x).setCell ⟨w0.heap.size + 1 + 1 + 1, 1, none⟩ y) ∧
    ∀ A L, RD w A L → RD ((w.setCell ⟨w0.heap.size + 1 + 1 + 1, 0, none⟩ x).setCell ⟨w0.heap.size + 1 + 1 + 1, 1, none⟩ y) A L := by
  have k := (h.b3.set0 x).set1 y
  refine ⟨k.c0, k.c1, (h.be.setCell (p := ⟨w0.heap.size + 1 + 1 + 1, 0, none⟩) (by show _ ≤ w0.heap.size + 1 + 1 + 1; omega) x).setCell (p := ⟨w0.heap.size + 1 + 1 + 1, 1, none⟩) (by show _ ≤ w0.heap.size + 1 + 1 + 1; omega) y, fun A L hr => ?_⟩
  exact (hr.setSlice h.b3.c0 x).setSlice (h.b3.set0 x).c1 y

set_option maxRecDepth 100000 in
set_option maxHeartbeats 1000000 in
theorem rmerge_1 (b l r : SR) (w : World) (hb : b.Rd w) (hl : l.Rd w) (hr : r.Rd w) (h1 : chk b.L b.M ≠ 0) : Calls Try.prog 13 #[b.val, l.val, r.val] w (MergePost b.p l.p r.p w) := by
  have t1 : (chk b.L b.M != 0) = true := by simpa using h1
  have e1 := mErr1 (b := b.p) (l := l.p) (r := r.p) h1
  have E1 := Lib.hid e1
  clear e1 h1
  have bx := box_start w b l r hb hl hr
  clear hb hl hr
  obtain ⟨A, B, c, d, L, M⟩ := b
  obtain ⟨A', B', c', d', L', M'⟩ := l
  obtain ⟨A'', B'', c'', d'', L'', M''⟩ := r
  unfold SR.val
  simp only at *
  go_enter Try.func13, Try.ntmps13
  go_wp2_with fail
  generalize (((w.alloc (Obj.cells #[Value.slice A L.length c, Value.slice B M.length d] 24)).alloc (Obj.cells #[Value.slice A' L'.length c', Value.slice B' M'.length d'] 24)).alloc (Obj.cells #[Value.slice A'' L''.length c'', Value.slice B'' M''.length d''] 24)).alloc (Obj.cells #[Value.slice none 0 0, Value.slice none 0 0] 24) = W at *
  refine (rcheck_any A B c d L M W bx.rb.a bx.rb.b (by have := bx.rb.la; simp only at this; omega) bx.rb.lb).mono ?_
  rintro e w1 ⟨rfl, k1⟩
  have bx1 := bx.below k1
  clear k1 bx
  have p0 := bx1.b3.c0
  have p1 := bx1.b3.c1
  have p2 := bx1.b3.f0 0
  have p3 := bx1.b3.f0 1
  go_wp2_with fail
  obtain ⟨g0, g1, g2, _⟩ := box_ret bx1 (.slice none 0 0) (.slice none 0 0)
  generalize (w1.setCell { block := w.heap.size + 1 + 1 + 1, off := 0 } (Value.slice none 0 0)).setCell { block := w.heap.size + 1 + 1 + 1, off := 1 } (Value.slice none 0 0) = w9 at *
  refine bodyPost_ret (v := .tuple #[sr0.val, .int .i64 (chk L M)]) (by simp [results, Try.results13, go_sem, g0, g1, sr0, SR.val]) rfl ⟨sr0, ?_, sr0_rd _, ?_, g2⟩
  · rw [E1.out.1]; rfl
  · rw [E1.out.2]; rfl

set_option maxRecDepth 100000 in
set_option maxHeartbeats 1000000 in
theorem rmerge_2 (b l r : SR) (w : World) (hb : b.Rd w) (hl : l.Rd w) (hr : r.Rd w) (h1 : chk b.L b.M = 0) (h2 : chk l.L l.M ≠ 0) : Calls Try.prog 13 #[b.val, l.val, r.val] w (MergePost b.p l.p r.p w) := by
  have t1 : (chk b.L b.M != 0) = false := by simpa using h1
  have t2 : (chk l.L l.M != 0) = true := by simpa using h2
  have e1 := mErr2 (b := b.p) (l := l.p) (r := r.p) h1 h2
  have E1 := Lib.hid e1
  clear e1 h1 h2
  have bx := box_start w b l r hb hl hr
  clear hb hl hr
  obtain ⟨A, B, c, d, L, M⟩ := b
  obtain ⟨A', B', c', d', L', M'⟩ := l
  obtain ⟨A'', B'', c'', d'', L'', M''⟩ := r
  unfold SR.val
  simp only at *
  go_enter Try.func13, Try.ntmps13
  go_wp2_with fail
  generalize (((w.alloc (Obj.cells #[Value.slice A L.length c, Value.slice B M.length d] 24)).alloc (Obj.cells #[Value.slice A' L'.length c', Value.slice B' M'.length d'] 24)).alloc (Obj.cells #[Value.slice A'' L''.length c'', Value.slice B'' M''.length d''] 24)).alloc (Obj.cells #[Value.slice none 0 0, Value.slice none 0 0] 24) = W at *
  refine (rcheck_any A B c d L M W bx.rb.a bx.rb.b (by have := bx.rb.la; simp only at this; omega) bx.rb.lb).mono ?_
  rintro e w1 ⟨rfl, k1⟩
  have bx1 := bx.below k1
  clear k1 bx
  have u0 := bx1.b1.c0
  have u1 := bx1.b1.c1
  simp only at u0 u1
  go_wp2_with fail
  refine (rcheck_any A' B' c' d' L' M' w1 bx1.rl.a bx1.rl.b (by have := bx1.rl.la; simp only at this; omega) bx1.rl.lb).mono ?_
  rintro e w2 ⟨rfl, k2⟩
  have bx2 := bx1.below k2
  clear k2 bx1
  have p0 := bx2.b3.c0
  have p1 := bx2.b3.c1
  have p2 := bx2.b3.f0 0
  have p3 := bx2.b3.f0 1
  go_wp2_with fail
  obtain ⟨g0, g1, g2, _⟩ := box_ret bx2 (.slice none 0 0) (.slice none 0 0)
  generalize (w2.setCell { block := w.heap.size + 1 + 1 + 1, off := 0 } (Value.slice none 0 0)).setCell { block := w.heap.size + 1 + 1 + 1, off := 1 } (Value.slice none 0 0) = w9 at *
  refine bodyPost_ret (v := .tuple #[sr0.val, .int .i64 (chk L' M')]) (by simp [results, Try.results13, go_sem, g0, g1, sr0, SR.val]) rfl ⟨sr0, ?_, sr0_rd _, ?_, g2⟩
  · rw [E1.out.1]; rfl
  · rw [E1.out.2]; rfl

set_option maxRecDepth 100000 in
set_option maxHeartbeats 1000000 in
theorem rmerge_3 (b l r : SR) (w : World) (hb : b.Rd w) (hl : l.Rd w) (hr : r.Rd w) (h1 : chk b.L b.M = 0) (h2 : chk l.L l.M = 0) (h3 : chk r.L r.M ≠ 0) : Calls Try.prog 13 #[b.val, l.val, r.val] w (MergePost b.p l.p r.p w) := by
  have t1 : (chk b.L b.M != 0) = false := by simpa using h1
  have t2 : (chk l.L l.M != 0) = false := by simpa using h2
  have t3 : (chk r.L r.M != 0) = true := by simpa using h3
  have e1 := mErr3 (b := b.p) (l := l.p) (r := r.p) h1 h2 h3
  have E1 := Lib.hid e1
  clear e1 h1 h2 h3
  have bx := box_start w b l r hb hl hr
  clear hb hl hr
  obtain ⟨A, B, c, d, L, M⟩ := b
  obtain ⟨A', B', c', d', L', M'⟩ := l
  obtain ⟨A'', B'', c'', d'', L'', M''⟩ := r
  unfold SR.val
  simp only at *
  go_enter Try.func13, Try.ntmps13
  go_wp2_with fail
  generalize (((w.alloc (Obj.cells #[Value.slice A L.length c, Value.slice B M.length d] 24)).alloc (Obj.cells #[Value.slice A' L'.length c', Value.slice B' M'.length d'] 24)).alloc (Obj.cells #[Value.slice A'' L''.length c'', Value.slice B'' M''.length d''] 24)).alloc (Obj.cells #[Value.slice none 0 0, Value.slice none 0 0] 24) = W at *
  refine (rcheck_any A B c d L M W bx.rb.a bx.rb.b (by have := bx.rb.la; simp only at this; omega) bx.rb.lb).mono ?_
  rintro e w1 ⟨rfl, k1⟩
  have bx1 := bx.below k1
  clear k1 bx
  have u0 := bx1.b1.c0
  have u1 := bx1.b1.c1
  simp only at u0 u1
  go_wp2_with fail
  refine (rcheck_any A' B' c' d' L' M' w1 bx1.rl.a bx1.rl.b (by have := bx1.rl.la; simp only at this; omega) bx1.rl.lb).mono ?_
  rintro e w2 ⟨rfl, k2⟩
  have bx2 := bx1.below k2
  clear k2 bx1
  have x0 := bx2.b2.c0
  have x1 := bx2.b2.c1
  simp only at x0 x1
  go_wp2_with fail
  refine (rcheck_any A'' B'' c'' d'' L'' M'' w2 bx2.rr.a bx2.rr.b (by have := bx2.rr.la; simp only at this; omega) bx2.rr.lb).mono ?_
  rintro e w3 ⟨rfl, k3⟩
  have bx3 := bx2.below k3
  clear k3 bx2
  have p0 := bx3.b3.c0
  have p1 := bx3.b3.c1
  have p2 := bx3.b3.f0 0
  have p3 := bx3.b3.f0 1
  go_wp2_with fail
  obtain ⟨g0, g1, g2, _⟩ := box_ret bx3 (.slice none 0 0) (.slice none 0 0)
  generalize (w3.setCell { block := w.heap.size + 1 + 1 + 1, off := 0 } (Value.slice none 0 0)).setCell { block := w.heap.size + 1 + 1 + 1, off := 1 } (Value.slice none 0 0) = w9 at *
  refine bodyPost_ret (v := .tuple #[sr0.val, .int .i64 (chk L'' M'')]) (by simp [results, Try.results13, go_sem, g0, g1, sr0, SR.val]) rfl ⟨sr0, ?_, sr0_rd _, ?_, g2⟩
  · rw [E1.out.1]; rfl
  · rw [E1.out.2]; rfl

end Go.Proofs.Ytgenloemohcpcaa
