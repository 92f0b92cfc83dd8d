/- Walk of the reference's Merge: valid sums. -/
import Derived.Test.YtgenloemohcpcaaRMerge
namespace Go.Proofs.Ytgenloemohcpcaa
open Go.RowKit

set_option maxRecDepth 100000 in
set_option maxHeartbeats 1000000 in
theorem rmerge_4 (b l r : SR) (w : World) (hb : b.Rd w) (hl : l.Rd w) (hr : r.Rd w) (h1 : chk b.L b.M = 0) (h2 : chk l.L l.M = 0) (h3 : chk r.L r.M = 0) (hq : l.p = r.p) : Calls Try.prog 13 #[b.val, l.val, r.val] w (MergePost b.p l.p r.p w) := by
  have t1 : (chk b.L b.M != 0) = false := by simpa using h1
  have t2 : (chk l.L l.M != 0) = false := by simpa using h2
  have t3 : (chk r.L r.M != 0) = false := by simpa using h3
  have e1 := mErr0 (b := b.p) (l := l.p) (r := r.p) h1 h2 h3
  have e2 : mrg b.p l.p r.p = l.p := by rw [← hq]; exact mrg_same _ _
  rw [e2] at e1
  have hq' : same2 l.L l.M r.L r.M = true := by
    unfold SR.p at hq
    simp only [Prod.mk.injEq] at hq
    simp [same2, hq.1, hq.2]
  have E1 := Lib.hid e1
  have HQ := Lib.hid hq'
  clear e1 e2 h1 h2 h3 hq hq'
  have bx := box_start w b l r hb hl hr
  clear hb hl hr
  obtain ⟨A, B, c, d, L, M⟩ := b
  obtain ⟨A', B', c', d', L', M'⟩ := l
  obtain ⟨A'', B'', c'', d'', L'', M''⟩ := r
  unfold SR.val
  simp only at *
  go_enter Try.func13, Try.ntmps13
  go_wp2_with fail
  generalize (((w.alloc (Obj.cells #[Value.slice A L.length c, Value.slice B M.length d] 24)).alloc (Obj.cells #[Value.slice A' L'.length c', Value.slice B' M'.length d'] 24)).alloc (Obj.cells #[Value.slice A'' L''.length c'', Value.slice B'' M''.length d''] 24)).alloc (Obj.cells #[Value.slice none 0 0, Value.slice none 0 0] 24) = W at *
  refine (rcheck_any A B c d L M W bx.rb.a bx.rb.b (by have := bx.rb.la; simp only at this; omega) bx.rb.lb).mono ?_
  rintro e w1 ⟨rfl, k1⟩
  have bx1 := bx.below k1
  clear k1 bx
  have u0 := bx1.b1.c0
  have u1 := bx1.b1.c1
  simp only at u0 u1
  go_wp2_with fail
  refine (rcheck_any A' B' c' d' L' M' w1 bx1.rl.a bx1.rl.b (by have := bx1.rl.la; simp only at this; omega) bx1.rl.lb).mono ?_
  rintro e w2 ⟨rfl, k2⟩
  have bx2 := bx1.below k2
  clear k2 bx1
  have x0 := bx2.b2.c0
  have x1 := bx2.b2.c1
  simp only at x0 x1
  go_wp2_with fail
  refine (rcheck_any A'' B'' c'' d'' L'' M'' w2 bx2.rr.a bx2.rr.b (by have := bx2.rr.la; simp only at this; omega) bx2.rr.lb).mono ?_
  rintro e w3 ⟨rfl, k3⟩
  have bx3 := bx2.below k3
  clear k3 bx2
  have y0 := bx3.b1.c0
  have y1 := bx3.b1.c1
  have y2 := bx3.b2.c0
  have y3 := bx3.b2.c1
  simp only at y0 y1 y2 y3
  go_wp2_with fail
  refine (same2_any A' B' A'' B'' c' d' c'' d'' L' M' L'' M'' w3 bx3.rl.a bx3.rl.b bx3.rr.a bx3.rr.b (by have := bx3.rl.la; simp only at this; omega) (by have := bx3.rl.lb; simp only at this; omega)).mono ?_
  rintro e w4 ⟨rfl, k4⟩
  rw [HQ.out]
  have bx4 := bx3.below k4
  clear k4 bx3
  have v0 := bx4.b1.c0
  have v1 := bx4.b1.c1
  simp only at v0 v1
  have p0 := bx4.b3.c0
  have p1 := bx4.b3.c1
  have p2 := bx4.b3.f0 0
  have p3 := bx4.b3.f0 1
  go_wp2_with fail
  obtain ⟨g0, g1, g2, g3⟩ := box_ret bx4 (.slice A' L'.length c') (.slice B' M'.length d')
  generalize (w4.setCell { block := w.heap.size + 1 + 1 + 1, off := 0 } (Value.slice A' L'.length c')).setCell { block := w.heap.size + 1 + 1 + 1, off := 1 } (Value.slice B' M'.length d') = w9 at *
  refine bodyPost_ret (v := .tuple #[sv A' B' L'.length c' M'.length d', .int .i64 0]) (by simp [results, Try.results13, go_sem, g0, g1]) rfl ⟨⟨A', B', c', d', L', M'⟩, ?_, ⟨g3 _ _ bx4.rl.a, g3 _ _ bx4.rl.b, bx4.rl.ca, bx4.rl.cb, bx4.rl.la, bx4.rl.lb⟩, ?_, g2⟩
  · rw [E1.out.1]; rfl
  · rw [E1.out.2]

theorem len5 {l : SR} {X Y L5 M5 : List T} {n : Nat} (h : ((add l.p X Y).1.length : Int) - (add l.p X Y).2.length = (l.p.1.length : Int) - l.p.2.length + X.length - Y.length ∧ (add l.p X Y).1.length ≤ l.p.1.length + X.length ∧ (add l.p X Y).2.length ≤ l.p.2.length + Y.length)
    (h1 : L5 = (add (l.L, l.M) X Y).1) (h2 : M5 = (add (l.L, l.M) X Y).2) (hn : n + l.L.length + l.M.length + X.length + Y.length ≤ 900) : L5.length + M5.length ≤ 2000 := by
  subst h1 h2
  have a := h.2.1
  have b := h.2.2
  simp only [SR.p] at a b
  omega

set_option maxRecDepth 100000 in
set_option maxHeartbeats 4000000 in
theorem rmerge_5 (b l r : SR) (w : World) (hb : b.Rd w) (hl : l.Rd w) (hr : r.Rd w) (h1 : chk b.L b.M = 0) (h2 : chk l.L l.M = 0) (h3 : chk r.L r.M = 0) (hq : l.p ≠ r.p)
    (hsz : b.L.length + b.M.length + l.L.length + l.M.length + r.L.length + r.M.length ≤ 900) : Calls Try.prog 13 #[b.val, l.val, r.val] w (MergePost b.p l.p r.p w) := by
  have t1 : (chk b.L b.M != 0) = false := by simpa using h1
  have t2 : (chk l.L l.M != 0) = false := by simpa using h2
  have t3 : (chk r.L r.M != 0) = false := by simpa using h3
  have e1 := mErr0 (b := b.p) (l := l.p) (r := r.p) h1 h2 h3
  have e2 : mrg b.p l.p r.p = add (add l.p r.L r.M) b.M b.L := by unfold mrg; rw [if_neg hq]; rfl
  have hk : chk (mrg b.p l.p r.p).1 (mrg b.p l.p r.p).2 = 0 :=
    chk_zero.2 (mrg_ok (chk_zero.1 h1) (chk_zero.1 h2) (chk_zero.1 h3) (by simp only [SR.p]; omega))
  have hn := add_len l.p r.L r.M
  rw [e2] at e1 hk
  have hq' : same2 l.L l.M r.L r.M = false := by
    unfold SR.p at hq
    simp only [ne_eq, Prod.mk.injEq] at hq
    simp only [same2, Bool.and_eq_false_iff, decide_eq_false_iff_not]
    exact Classical.not_and_iff_not_or_not.1 hq
  have E1 := Lib.hid e1
  have HQ := Lib.hid hq'
  have HK := Lib.hid hk
  have HN := Lib.hid hn
  clear e1 e2 h1 h2 h3 hq hq' hk hn
  have bx := box_start w b l r hb hl hr
  clear hb hl hr
  obtain ⟨A, B, c, d, L, M⟩ := b
  obtain ⟨A', B', c', d', L', M'⟩ := l
  obtain ⟨A'', B'', c'', d'', L'', M''⟩ := r
  unfold SR.val
  simp only at *
  go_enter Try.func13, Try.ntmps13
  go_wp2_with fail
  generalize (((w.alloc (Obj.cells #[Value.slice A L.length c, Value.slice B M.length d] 24)).alloc (Obj.cells #[Value.slice A' L'.length c', Value.slice B' M'.length d'] 24)).alloc (Obj.cells #[Value.slice A'' L''.length c'', Value.slice B'' M''.length d''] 24)).alloc (Obj.cells #[Value.slice none 0 0, Value.slice none 0 0] 24) = W at *
  refine (rcheck_any A B c d L M W bx.rb.a bx.rb.b (by have := bx.rb.la; simp only at this; omega) bx.rb.lb).mono ?_
  rintro e w1 ⟨rfl, k1⟩
  have bx1 := bx.below k1
  clear k1 bx
  have u0 := bx1.b1.c0
  have u1 := bx1.b1.c1
  simp only at u0 u1
  go_wp2_with fail
  refine (rcheck_any A' B' c' d' L' M' w1 bx1.rl.a bx1.rl.b (by have := bx1.rl.la; simp only at this; omega) bx1.rl.lb).mono ?_
  rintro e w2 ⟨rfl, k2⟩
  have bx2 := bx1.below k2
  clear k2 bx1
  have x0 := bx2.b2.c0
  have x1 := bx2.b2.c1
  simp only at x0 x1
  go_wp2_with fail
  refine (rcheck_any A'' B'' c'' d'' L'' M'' w2 bx2.rr.a bx2.rr.b (by have := bx2.rr.la; simp only at this; omega) bx2.rr.lb).mono ?_
  rintro e w3 ⟨rfl, k3⟩
  have bx3 := bx2.below k3
  clear k3 bx2
  have y0 := bx3.b1.c0
  have y1 := bx3.b1.c1
  have y2 := bx3.b2.c0
  have y3 := bx3.b2.c1
  simp only at y0 y1 y2 y3
  go_wp2_with fail
  refine (same2_any A' B' A'' B'' c' d' c'' d'' L' M' L'' M'' w3 bx3.rl.a bx3.rl.b bx3.rr.a bx3.rr.b (by have := bx3.rl.la; simp only at this; omega) (by have := bx3.rl.lb; simp only at this; omega)).mono ?_
  rintro e w4 ⟨rfl, k4⟩
  rw [HQ.out]
  have bx4 := bx3.below k4
  clear k4 bx3
  have v0 := bx4.b1.c0
  have v1 := bx4.b1.c1
  have v2 := bx4.b2.c0
  have v3 := bx4.b2.c1
  have v4 := bx4.b0.c0
  have v5 := bx4.b0.c1
  simp only at v0 v1 v2 v3 v4 v5
  have l0 := bx4.b0.lt
  have l1 := bx4.b1.lt
  have l2 := bx4.b2.lt
  have l3 := bx4.b3.lt
  have q1 := bx4.rl.a
  have q2 := bx4.rl.b
  have q3 := bx4.rr.a
  have q4 := bx4.rr.b
  have q5 := bx4.rb.b
  have q6 := bx4.rb.a
  have z1 := bx4.rl.ca
  have z2 := bx4.rl.cb
  simp only at q1 q2 q3 q4 q5 q6 z1 z2
  have hS : ∀ W, Below w4.heap.size w4 W → (W.cell? ⟨w.heap.size + 1, 0, none⟩ = some (.slice A' L'.length c') ∧ W.cell? ⟨w.heap.size + 1, 1, none⟩ = some (.slice B' M'.length d') ∧ W.cell? ⟨w.heap.size + 1 + 1, 0, none⟩ = some (.slice A'' L''.length c'') ∧ W.cell? ⟨w.heap.size + 1 + 1, 1, none⟩ = some (.slice B'' M''.length d'') ∧ W.cell? ⟨w.heap.size, 0, none⟩ = some (.slice A L.length c) ∧ W.cell? ⟨w.heap.size, 1, none⟩ = some (.slice B M.length d)) := fun W hW =>
    ⟨(hW.cell (p := ⟨w.heap.size + 1, 0, none⟩) l1).trans v0, (hW.cell (p := ⟨w.heap.size + 1, 1, none⟩) l1).trans v1, (hW.cell (p := ⟨w.heap.size + 1 + 1, 0, none⟩) l2).trans v2, (hW.cell (p := ⟨w.heap.size + 1 + 1, 1, none⟩) l2).trans v3, (hW.cell (p := ⟨w.heap.size, 0, none⟩) l0).trans v4, (hW.cell (p := ⟨w.heap.size, 1, none⟩) l0).trans v5⟩
  have HS := Lib.hid hS
  have BX := Lib.hid bx4
  clear bx4 hS
  have hk0 : ∀ o, Below w4.heap.size w4 (w4.alloc o) := fun o => (Below.refl _ _).alloc (Nat.le_refl _) o
  have HK0 := Lib.hid hk0
  clear hk0
  have tokA : True := trivial
  go_wp2_with fail
  go_region_held3 (fun w' => w'.cell? ⟨w.heap.size + 1, 0, none⟩ = some (.slice A' L'.length c') ∧ w'.cell? ⟨w.heap.size + 1, 1, none⟩ = some (.slice B' M'.length d') ∧ w'.cell? ⟨w.heap.size + 1 + 1, 0, none⟩ = some (.slice A'' L''.length c'') ∧ w'.cell? ⟨w.heap.size + 1 + 1, 1, none⟩ = some (.slice B'' M''.length d'') ∧ w'.cell? ⟨w.heap.size, 0, none⟩ = some (.slice A L.length c) ∧ w'.cell? ⟨w.heap.size, 1, none⟩ = some (.slice B M.length d))
    (first | exact HS.out _ ((k6.setCell (p := ⟨w5.heap.size, 0, none⟩) k5.size _).setCell (p := ⟨w5.heap.size, 1, none⟩) k5.size _) | exact HS.out _ ((k6.setCell (p := ⟨w4.heap.size, 0, none⟩) (Nat.le_refl _) _).setCell (p := ⟨w4.heap.size, 1, none⟩) (Nat.le_refl _) _) | exact HS.out _ k6 | exact HS.out _ (k6.alloc k6.size _) | exact HS.out _ k5 | exact HS.out _ (k5.alloc k5.size _) | exact HS.out _ (HK0.out _) | go_keep)
    (first
      | (go_at_call 33; have _t := tokA; refine (add_any A' B' A'' B'' c' d' c'' d'' L' M' L'' M'' _ (by first | exact q1 | exact q1.alloc _) (by first | exact q2 | exact q2.alloc _) (by first | exact q3 | exact q3.alloc _) (by first | exact q4 | exact q4.alloc _) z1 z2 (by omega)).mono ?_; rintro e w5 ⟨⟨A5, B5, c5, d5, L5, M5⟩, rfl, r5, e5, e5', k5o⟩; have k5 : Below w4.heap.size w4 w5 := (by first | exact undrew k5o | exact (HK0.out _).trans ((undrew k5o).mono (by simp))); (try (have bk5 := Lib.hid ((BK.new w4 (.slice none 0 0) (.slice none 0 0)).below (undrew k5o) (by simp)))); have n5 : L5.length + M5.length ≤ 2000 := len5 HN.out e5 e5' hsz; have H5 := Lib.hid e5; have H5' := Lib.hid e5'; clear e5 e5' tokA k5o; unfold SR.val; simp only)
      | (go_at_call 33; refine (add_any A5 B5 B A c5 d5 d c L5 M5 M L _ (by first | exact r5.a | exact r5.a.alloc _) (by first | exact r5.b | exact r5.b.alloc _) (by first | exact q5.below k5 | exact (q5.below k5).alloc _) (by first | exact q6.below k5 | exact (q6.below k5).alloc _) r5.ca r5.cb (by omega)).mono ?_; rintro e w6 ⟨⟨A6, B6, c6, d6, L6, M6⟩, rfl, r6, e6, e6', k6o⟩; have k6 : Below w4.heap.size w4 w6 := (by first | exact k5.trans (k6o.mono k5.size) | exact k5.trans ((undrew k6o).mono k5.size) | exact (k5.alloc k5.size _).trans (k6o.mono (by have := k5.size; simp; omega)) | exact (k5.alloc k5.size _).trans ((undrew k6o).mono (by have := k5.size; simp; omega))); (try (have bk6 := Lib.hid (bk5.out.below k6o bk5.out.lt))); (try (have bk6 := Lib.hid ((BK.new w5 (.slice none 0 0) (.slice none 0 0)).below k6o (by simp)))); (try (have g60 := bk6.out.c0; have g61 := bk6.out.c1; have g62 := bk6.out.f0 0; have g63 := bk6.out.f0 1)); have H6 := Lib.hid e6; have H6' := Lib.hid e6'; clear e6 e6' k6o; unfold SR.val; simp only))
  · have k9 := k6.alloc k6.size (Obj.cells #[Value.slice A6 L6.length c6, Value.slice B6 M6.length d6] 24)
    have bk9 := BK.new w6 (Value.slice A6 L6.length c6) (Value.slice B6 M6.length d6)
    have ra9 := r6.a.alloc (Obj.cells #[Value.slice A6 L6.length c6, Value.slice B6 M6.length d6] 24)
    have rb9 := r6.b.alloc (Obj.cells #[Value.slice A6 L6.length c6, Value.slice B6 M6.length d6] 24)
    simp only at ra9 rb9
    have bx9 := BX.out.below k9
    have j0 := bk9.c0
    have j1 := bk9.c1
    have s9 : add (add (⟨A', B', c', d', L', M'⟩ : SR).p L'' M'') M L = (L6, M6) := by
      have a := H5.out
      have b := H5'.out
      have a' := H6.out
      have b' := H6'.out
      simp only at a b a' b'
      rw [a', b', a, b]
      rfl
    have hk9 := HK.out
    rw [s9] at hk9
    have e9 := E1.out
    rw [s9] at e9
    have E9 := Lib.hid e9
    have t9 : (chk L6 M6 != 0) = false := by simpa using hk9
    have hz1 := r6.la
    have hz2 := r6.lb
    have hz3 := r6.ca
    have hz4 := r6.cb
    simp only at hz1 hz2 hz3 hz4
    clear e9 hk9 s9 HK E1 HN
    generalize w6.alloc (Obj.cells #[Value.slice A6 L6.length c6, Value.slice B6 M6.length d6] 24) = W9 at *
    generalize w6.heap.size = g9 at *
    clear HS HK0 v0 v1 v2 v3 v4 v5 y0 y1 y2 y3 x0 x1 u0 u1
    go_wp2_with fail
    refine (rcheck_any A6 B6 c6 d6 L6 M6 _ ra9 rb9 (by omega) hz2).mono ?_
    rintro e w7 ⟨rfl, k7⟩
    have bx7 := bx9.below k7
    have i0 := (bk9.below k7 bk9.lt).c0
    have i1 := (bk9.below k7 bk9.lt).c1
    have ra7 := ra9.below k7
    have rb7 := rb9.below k7
    have p0 := bx7.b3.c0
    have p1 := bx7.b3.c1
    have p2 := bx7.b3.f0 0
    have p3 := bx7.b3.f0 1
    have BX7 := Lib.hid bx7
    clear k7 bx9 bx7 BX
    go_wp2_with fail
    obtain ⟨g0, g1, g2, g3⟩ := box_ret BX7.out (.slice A6 L6.length c6) (.slice B6 M6.length d6)
    generalize (w7.setCell { block := w.heap.size + 1 + 1 + 1, off := 0 } (Value.slice A6 L6.length c6)).setCell { block := w.heap.size + 1 + 1 + 1, off := 1 } (Value.slice B6 M6.length d6) = w9 at *
    refine bodyPost_ret (v := .tuple #[sv A6 B6 L6.length c6 M6.length d6, .int .i64 0]) (by simp [results, Try.results13, go_sem, g0, g1]) rfl ⟨⟨A6, B6, c6, d6, L6, M6⟩, ?_, ⟨g3 _ _ ra7, g3 _ _ rb7, hz3, hz4, hz1, hz2⟩, ?_, g2⟩
    · rw [E9.out.1]; rfl
    · rw [E9.out.2]; rfl
  · have k9 := (k6.setCell (p := ⟨w5.heap.size, 0, none⟩) k5.size (Value.slice A6 L6.length c6)).setCell (p := ⟨w5.heap.size, 1, none⟩) k5.size (Value.slice B6 M6.length d6)
    have bk9 := (bk6.out.set0 (Value.slice A6 L6.length c6)).set1 (Value.slice B6 M6.length d6)
    have ra9 := (r6.a.setSlice bk6.out.c0 (Value.slice A6 L6.length c6)).setSlice (bk6.out.set0 (Value.slice A6 L6.length c6)).c1 (Value.slice B6 M6.length d6)
    have rb9 := (r6.b.setSlice bk6.out.c0 (Value.slice A6 L6.length c6)).setSlice (bk6.out.set0 (Value.slice A6 L6.length c6)).c1 (Value.slice B6 M6.length d6)
    simp only at ra9 rb9
    clear g60 g61 g62 g63
    have bx9 := BX.out.below k9
    have j0 := bk9.c0
    have j1 := bk9.c1
    have s9 : add (add (⟨A', B', c', d', L', M'⟩ : SR).p L'' M'') M L = (L6, M6) := by
      have a := H5.out
      have b := H5'.out
      have a' := H6.out
      have b' := H6'.out
      simp only at a b a' b'
      rw [a', b', a, b]
      rfl
    have hk9 := HK.out
    rw [s9] at hk9
    have e9 := E1.out
    rw [s9] at e9
    have E9 := Lib.hid e9
    have t9 : (chk L6 M6 != 0) = false := by simpa using hk9
    have hz1 := r6.la
    have hz2 := r6.lb
    have hz3 := r6.ca
    have hz4 := r6.cb
    simp only at hz1 hz2 hz3 hz4
    clear e9 hk9 s9 HK E1 HN
    generalize (w6.setCell { block := w5.heap.size, off := 0 } (Value.slice A6 L6.length c6)).setCell { block := w5.heap.size, off := 1 } (Value.slice B6 M6.length d6) = W9 at *
    clear HS HK0 v0 v1 v2 v3 v4 v5 y0 y1 y2 y3 x0 x1 u0 u1
    go_wp2_with fail
    refine (rcheck_any A6 B6 c6 d6 L6 M6 _ ra9 rb9 (by omega) hz2).mono ?_
    rintro e w7 ⟨rfl, k7⟩
    have bx7 := bx9.below k7
    have i0 := (bk9.below k7 bk9.lt).c0
    have i1 := (bk9.below k7 bk9.lt).c1
    have ra7 := ra9.below k7
    have rb7 := rb9.below k7
    have p0 := bx7.b3.c0
    have p1 := bx7.b3.c1
    have p2 := bx7.b3.f0 0
    have p3 := bx7.b3.f0 1
    have BX7 := Lib.hid bx7
    clear k7 bx9 bx7 BX
    go_wp2_with fail
    obtain ⟨g0, g1, g2, g3⟩ := box_ret BX7.out (.slice A6 L6.length c6) (.slice B6 M6.length d6)
    generalize (w7.setCell { block := w.heap.size + 1 + 1 + 1, off := 0 } (Value.slice A6 L6.length c6)).setCell { block := w.heap.size + 1 + 1 + 1, off := 1 } (Value.slice B6 M6.length d6) = w9 at *
    refine bodyPost_ret (v := .tuple #[sv A6 B6 L6.length c6 M6.length d6, .int .i64 0]) (by simp [results, Try.results13, go_sem, g0, g1]) rfl ⟨⟨A6, B6, c6, d6, L6, M6⟩, ?_, ⟨g3 _ _ ra7, g3 _ _ rb7, hz3, hz4, hz1, hz2⟩, ?_, g2⟩
    · rw [E9.out.1]; rfl
    · rw [E9.out.2]; rfl
  · have k9 := (k6.setCell (p := ⟨w4.heap.size, 0, none⟩) (Nat.le_refl _) (Value.slice A6 L6.length c6)).setCell (p := ⟨w4.heap.size, 1, none⟩) (Nat.le_refl _) (Value.slice B6 M6.length d6)
    have bk9 := (bk6.out.set0 (Value.slice A6 L6.length c6)).set1 (Value.slice B6 M6.length d6)
    have ra9 := (r6.a.setSlice bk6.out.c0 (Value.slice A6 L6.length c6)).setSlice (bk6.out.set0 (Value.slice A6 L6.length c6)).c1 (Value.slice B6 M6.length d6)
    have rb9 := (r6.b.setSlice bk6.out.c0 (Value.slice A6 L6.length c6)).setSlice (bk6.out.set0 (Value.slice A6 L6.length c6)).c1 (Value.slice B6 M6.length d6)
    simp only at ra9 rb9
    clear g60 g61 g62 g63
    have bx9 := BX.out.below k9
    have j0 := bk9.c0
    have j1 := bk9.c1
    have s9 : add (add (⟨A', B', c', d', L', M'⟩ : SR).p L'' M'') M L = (L6, M6) := by
      have a := H5.out
      have b := H5'.out
      have a' := H6.out
      have b' := H6'.out
      simp only at a b a' b'
      rw [a', b', a, b]
      rfl
    have hk9 := HK.out
    rw [s9] at hk9
    have e9 := E1.out
    rw [s9] at e9
    have E9 := Lib.hid e9
    have t9 : (chk L6 M6 != 0) = false := by simpa using hk9
    have hz1 := r6.la
    have hz2 := r6.lb
    have hz3 := r6.ca
    have hz4 := r6.cb
    simp only at hz1 hz2 hz3 hz4
    clear e9 hk9 s9 HK E1 HN
    generalize (w6.setCell { block := w4.heap.size, off := 0 } (Value.slice A6 L6.length c6)).setCell { block := w4.heap.size, off := 1 } (Value.slice B6 M6.length d6) = W9 at *
    clear HS HK0 v0 v1 v2 v3 v4 v5 y0 y1 y2 y3 x0 x1 u0 u1
    go_wp2_with fail
    refine (rcheck_any A6 B6 c6 d6 L6 M6 _ ra9 rb9 (by omega) hz2).mono ?_
    rintro e w7 ⟨rfl, k7⟩
    have bx7 := bx9.below k7
    have i0 := (bk9.below k7 bk9.lt).c0
    have i1 := (bk9.below k7 bk9.lt).c1
    have ra7 := ra9.below k7
    have rb7 := rb9.below k7
    have p0 := bx7.b3.c0
    have p1 := bx7.b3.c1
    have p2 := bx7.b3.f0 0
    have p3 := bx7.b3.f0 1
    have BX7 := Lib.hid bx7
    clear k7 bx9 bx7 BX
    go_wp2_with fail
    obtain ⟨g0, g1, g2, g3⟩ := box_ret BX7.out (.slice A6 L6.length c6) (.slice B6 M6.length d6)
    generalize (w7.setCell { block := w.heap.size + 1 + 1 + 1, off := 0 } (Value.slice A6 L6.length c6)).setCell { block := w.heap.size + 1 + 1 + 1, off := 1 } (Value.slice B6 M6.length d6) = w9 at *
    refine bodyPost_ret (v := .tuple #[sv A6 B6 L6.length c6 M6.length d6, .int .i64 0]) (by simp [results, Try.results13, go_sem, g0, g1]) rfl ⟨⟨A6, B6, c6, d6, L6, M6⟩, ?_, ⟨g3 _ _ ra7, g3 _ _ rb7, hz3, hz4, hz1, hz2⟩, ?_, g2⟩
    · rw [E9.out.1]; rfl
    · rw [E9.out.2]; rfl
end Go.Proofs.Ytgenloemohcpcaa
