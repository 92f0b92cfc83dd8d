/- Walk: the statement ConflictUndo, the main way. -/
import Derived.Test.YtgenloemohcpcaaLawUndo
namespace Go.Proofs.Ytgenloemohcpcaa
open Go.RowKit

set_option maxRecDepth 100000 in
set_option maxHeartbeats 8000000 in
theorem undo_6 (x y z : T) (w : World) (h0 : ¬ 100 < x.length) (h1 : ¬ 100 < y.length) (h2 : ¬ 100 < z.length) (h3 : x ≠ y) (h4 : y ≠ z) (h5 : x ≠ z) :
    Calls Try.prog 6 #[tv x, tv y, tv z] w fun e w' => e = .returned (.bool true) ∧ Below w.heap.size w w' := by
  have q3 : (x == y) = false := by simpa using h3
  have q4 : (y == z) = false := by simpa using h4
  have q5 : (x == z) = false := by simpa using h5
  have lx : x.length ≤ 65536 := by omega
  have ly : y.length ≤ 65536 := by omega
  have lz : z.length ≤ 65536 := by omega
  have U1 := Lib.hid (undo_conflict ly h3 h4 h5)
  have U2 := Lib.hid (undo_left lx ly lz h3 h4 h5)
  have U3 := Lib.hid (undo_right lx ly lz h3 h4 h5)
  have OX := Lib.hid (one_ok lx)
  have OY := Lib.hid (one_ok ly)
  have OZ := Lib.hid (one_ok lz)
  have OS := Lib.hid (mrg_ok (one_ok lx) (one_ok ly) (one_ok lz) (by simp [one]))
  clear h3 h4 h5
  go_enter Try.func6, Try.ntmps6
  go_wp2_with fail
  have m0 := Lib.hid (show Mem w w [] from ⟨Below.refl _ _, by simp⟩)
  refine (of_any x _).mono ?_
  rintro e w1 ⟨sx, rfl, Rx, e1, e1', k1⟩
  have Px := Lib.hid (one_p e1 e1')
  clear e1 e1'
  unfold SR.val
  have m1 := Lib.hid (m0.out.below k1)
  clear  k1 m0
  go_wp2_with fail
  refine (of_any y _).mono ?_
  rintro e w2 ⟨sy, rfl, Ry, e1, e1', k2⟩
  have Py := Lib.hid (one_p e1 e1')
  clear e1 e1'
  replace Rx := Rx.below k2
  unfold SR.val
  have m2 := Lib.hid (m1.out.below k2)
  clear  k2 m1
  go_wp2_with fail
  refine (of_any z _).mono ?_
  rintro e w3 ⟨sz, rfl, Rz, e1, e1', k3⟩
  have Pz := Lib.hid (one_p e1 e1')
  clear e1 e1'
  replace Rx := Rx.below k3
  replace Ry := Ry.below k3
  unfold SR.val
  have m3 := Lib.hid (m2.out.below k3)
  clear  k3 m2
  go_wp2_with fail
  refine (merge_any sx sy sz w3 Rx Ry Rz (by have a := SR.len Px.out; have b := SR.len Py.out; have c := SR.len Pz.out; simp only [one, List.length_cons, List.length_nil] at a b c; omega)).mono ?_
  rintro e w4 ⟨s, rfl, R, E, k4⟩
  rw [Px.out, Py.out, Pz.out] at E
  rw [Px.out, Py.out, Pz.out]
  have v := merge_valid OX.out OY.out OZ.out
  rw [v.1]
  rw [v.2] at E
  have P := Lib.hid E
  clear E v Rx Ry Rz Px Py Pz
  unfold SR.val
  have m4 := Lib.hid (m3.out.below k4)
  clear  k4 m3
  go_upto_region 4 with (fail)
  have m5 := Lib.hid (m4.out.box s R)
  generalize hW5 : w4.alloc (Obj.cells #[Value.slice s.A s.L.length s.c, Value.slice s.B s.M.length s.d] 24) = W5 at *
  clear hW5
  clear  m4
  clear R
  go_cut [9, 10] (fun sa sb wx => ∃ (g : Nat) (t : SR), sa = .pointer (some ⟨g, 0, none⟩) ∧ sb = .int .i64 0 ∧ Mem w wx ((g, t) :: [(w4.heap.size, s)]) ∧ t.p = one z)
  case first =>
    have r7 := (m5.out.rd (g := w4.heap.size) (s := s) (by simp))
    have f0 := (m5.out.bk (g := w4.heap.size) (s := s) (by simp)).c0
    have f1 := (m5.out.bk (g := w4.heap.size) (s := s) (by simp)).c1
    have l7 := (m5.out.bk (g := w4.heap.size) (s := s) (by simp)).lt
    have HK0 := Lib.hid (show ∀ o, Below W5.heap.size W5 (W5.alloc o) from fun o => (Below.refl _ _).alloc (Nat.le_refl _) o)
    have HS := Lib.hid (show ∀ W', Below W5.heap.size W5 W' → (W'.cell? ⟨w4.heap.size, 0, none⟩ = some (.slice s.A s.L.length s.c) ∧ W'.cell? ⟨w4.heap.size, 1, none⟩ = some (.slice s.B s.M.length s.d)) from fun W' hW => ⟨(hW.cell (p := ⟨w4.heap.size, 0, none⟩) l7).trans f0, (hW.cell (p := ⟨w4.heap.size, 1, none⟩) l7).trans f1⟩)
    have zs := SR.len P.out
    have zl : s.L.length + s.M.length ≤ 4 := by have h1 := U1.out.1; have h2 := U1.out.2; rw [h1] at zs; rw [h2] at zs; simp only [List.length_cons, List.length_nil] at zs; omega
    clear zs
    go_region_held3 (fun w' => w'.cell? ⟨w4.heap.size, 0, none⟩ = some (.slice s.A s.L.length s.c) ∧ w'.cell? ⟨w4.heap.size, 1, none⟩ = some (.slice s.B s.M.length s.d))
      (first | exact HS.out _ ((KM.setCell (p := ⟨W5.heap.size, 0, none⟩) (Nat.le_refl _) _).setCell (p := ⟨W5.heap.size, 1, none⟩) (Nat.le_refl _) _) | exact HS.out _ ((KM.setCell (p := ⟨wa.heap.size, 0, none⟩) KA.size _).setCell (p := ⟨wa.heap.size, 1, none⟩) KA.size _) | exact HS.out _ ((KM.setCell (p := ⟨wb.heap.size, 0, none⟩) KB.size _).setCell (p := ⟨wb.heap.size, 1, none⟩) KB.size _) | exact HS.out _ KM | exact HS.out _ (KM.alloc KM.size _) | exact HS.out _ KB | exact HS.out _ (KB.alloc KB.size _) | exact HS.out _ KA | exact HS.out _ (KA.alloc KA.size _) | exact HS.out _ (HK0.out _) | go_keep)
      (first
        | (go_at_call 16; (with_reducible refine (of_any y _).mono ?_); rintro e wa ⟨sa, rfl, ra, e1, e1', ka⟩; have KA : Below W5.heap.size W5 wa := (by first | exact undrew ka | exact (HK0.out _).trans ((undrew ka).mono (by simp))); (try (have bk9 := Lib.hid ((BK.new W5 (.slice none 0 0) (.slice none 0 0)).below (undrew ka) (by simp)))); have PA := Lib.hid (one_p e1 e1'); clear e1 e1' ka; unfold SR.val; simp only)
        | (go_at_call 16; (with_reducible refine (of_any x _).mono ?_); rintro e wb ⟨sb, rfl, rb, e1, e1', kb⟩; have KB : Below W5.heap.size W5 wb := (by first | exact KA.trans (kb.mono KA.size) | exact (KA.alloc KA.size _).trans (kb.mono (by have := KA.size; simp; omega))); (try (replace bk9 := Lib.hid (bk9.out.below kb bk9.out.lt))); (try (have bk9 := Lib.hid ((BK.new wa (.slice none 0 0) (.slice none 0 0)).below kb (by simp)))); replace ra : sa.Rd wb := (by first | exact ra.below kb | exact (ra.alloc _).below kb); have PB := Lib.hid (one_p e1 e1'); clear e1 e1' kb; unfold SR.val; simp only)
        | (go_at_call 12; refine (merge_any sa s sb _ (by first | exact ra | exact ra.alloc _) (by first | exact r7.below KB | exact (r7.below KB).alloc _) (by first | exact rb | exact rb.alloc _) (by have a := SR.len PA.out; have b := SR.len PB.out; simp only [one, List.length_cons, List.length_nil] at a b; omega)).mono ?_; rintro e wm ⟨sm, rfl, rm, em, km⟩; have KM : Below W5.heap.size W5 wm := (by first | exact KB.trans (km.mono KB.size) | exact (KB.alloc KB.size _).trans (km.mono (by have := KB.size; simp; omega))); (try (replace bk9 := Lib.hid (bk9.out.below km bk9.out.lt))); (try (have bk9 := Lib.hid ((BK.new wb (.slice none 0 0) (.slice none 0 0)).below km (by simp)))); (try (have g60 := bk9.out.c0; have g61 := bk9.out.c1; have g62 := bk9.out.f0 0; have g63 := bk9.out.f0 1)); rw [PA.out, P.out, PB.out] at em; have v := merge_valid OY.out OS.out OX.out; rw [PA.out, P.out, PB.out, v.1]; rw [v.2, U2.out] at em; have PM := Lib.hid em; clear em v km; unfold SR.val; simp only))
    all_goals go_wp2_with fail
    all_goals go_meet
    all_goals first | exact ⟨wm.heap.size, sm, rfl, rfl, (m5.out.below KM).box sm rm, PM.out⟩ | exact ⟨wb.heap.size, sm, rfl, rfl, (m5.out.below KM).fill bk9.out (fun p hp => by have hb := (m5.out.all p hp).1.lt; have h2 := KB.size; omega) (by have h1 := m5.out.be.size; have h2 := KB.size; omega) sm rm, PM.out⟩ | exact ⟨wa.heap.size, sm, rfl, rfl, (m5.out.below KM).fill bk9.out (fun p hp => by have hb := (m5.out.all p hp).1.lt; have h2 := KA.size; omega) (by have h1 := m5.out.be.size; have h2 := KA.size; omega) sm rm, PM.out⟩ | exact ⟨W5.heap.size, sm, rfl, rfl, (m5.out.below KM).fill bk9.out (fun p hp => by have hb := (m5.out.all p hp).1.lt; omega) m5.out.be.size sm rm, PM.out⟩
  case rest =>
    obtain ⟨g6, t6, rfl, rfl, mm, pp⟩ := hcut
    have m6 := Lib.hid mm
    have PT9 := Lib.hid pp
    clear mm pp m5
    go_upto_region 5 with (fail)
    generalize hwc : wc = wd at *
    clear hwc
    go_cut [11, 12] (fun sa sb wx => ∃ (g : Nat) (t : SR), sa = .pointer (some ⟨g, 0, none⟩) ∧ sb = .int .i64 0 ∧ Mem w wx ((g, t) :: [(g6, t6), (w4.heap.size, s)]) ∧ t.p = one y)
    case first =>
      have r7 := (m6.out.rd (g := w4.heap.size) (s := s) (by simp))
      have f0 := (m6.out.bk (g := w4.heap.size) (s := s) (by simp)).c0
      have f1 := (m6.out.bk (g := w4.heap.size) (s := s) (by simp)).c1
      have l7 := (m6.out.bk (g := w4.heap.size) (s := s) (by simp)).lt
      have HK0 := Lib.hid (show ∀ o, Below wd.heap.size wd (wd.alloc o) from fun o => (Below.refl _ _).alloc (Nat.le_refl _) o)
      have HS := Lib.hid (show ∀ W', Below wd.heap.size wd W' → (W'.cell? ⟨w4.heap.size, 0, none⟩ = some (.slice s.A s.L.length s.c) ∧ W'.cell? ⟨w4.heap.size, 1, none⟩ = some (.slice s.B s.M.length s.d)) from fun W' hW => ⟨(hW.cell (p := ⟨w4.heap.size, 0, none⟩) l7).trans f0, (hW.cell (p := ⟨w4.heap.size, 1, none⟩) l7).trans f1⟩)
      have zs := SR.len P.out
      have zl : s.L.length + s.M.length ≤ 4 := by have h1 := U1.out.1; have h2 := U1.out.2; rw [h1] at zs; rw [h2] at zs; simp only [List.length_cons, List.length_nil] at zs; omega
      clear zs
      go_region_held3 (fun w' => w'.cell? ⟨w4.heap.size, 0, none⟩ = some (.slice s.A s.L.length s.c) ∧ w'.cell? ⟨w4.heap.size, 1, none⟩ = some (.slice s.B s.M.length s.d))
        (first | exact HS.out _ ((KM.setCell (p := ⟨wd.heap.size, 0, none⟩) (Nat.le_refl _) _).setCell (p := ⟨wd.heap.size, 1, none⟩) (Nat.le_refl _) _) | exact HS.out _ ((KM.setCell (p := ⟨wa.heap.size, 0, none⟩) KA.size _).setCell (p := ⟨wa.heap.size, 1, none⟩) KA.size _) | exact HS.out _ ((KM.setCell (p := ⟨wb.heap.size, 0, none⟩) KB.size _).setCell (p := ⟨wb.heap.size, 1, none⟩) KB.size _) | exact HS.out _ KM | exact HS.out _ (KM.alloc KM.size _) | exact HS.out _ KB | exact HS.out _ (KB.alloc KB.size _) | exact HS.out _ KA | exact HS.out _ (KA.alloc KA.size _) | exact HS.out _ (HK0.out _) | go_keep)
        (first
          | (go_at_call 16; (with_reducible refine (of_any z _).mono ?_); rintro e wa ⟨sa, rfl, ra, e1, e1', ka⟩; have KA : Below wd.heap.size wd wa := (by first | exact undrew ka | exact (HK0.out _).trans ((undrew ka).mono (by simp))); (try (have bk9 := Lib.hid ((BK.new wd (.slice none 0 0) (.slice none 0 0)).below (undrew ka) (by simp)))); have PA := Lib.hid (one_p e1 e1'); clear e1 e1' ka; unfold SR.val; simp only)
          | (go_at_call 16; (with_reducible refine (of_any x _).mono ?_); rintro e wb ⟨sb, rfl, rb, e1, e1', kb⟩; have KB : Below wd.heap.size wd wb := (by first | exact KA.trans (kb.mono KA.size) | exact (KA.alloc KA.size _).trans (kb.mono (by have := KA.size; simp; omega))); (try (replace bk9 := Lib.hid (bk9.out.below kb bk9.out.lt))); (try (have bk9 := Lib.hid ((BK.new wa (.slice none 0 0) (.slice none 0 0)).below kb (by simp)))); replace ra : sa.Rd wb := (by first | exact ra.below kb | exact (ra.alloc _).below kb); have PB := Lib.hid (one_p e1 e1'); clear e1 e1' kb; unfold SR.val; simp only)
          | (go_at_call 12; refine (merge_any sa s sb _ (by first | exact ra | exact ra.alloc _) (by first | exact r7.below KB | exact (r7.below KB).alloc _) (by first | exact rb | exact rb.alloc _) (by have a := SR.len PA.out; have b := SR.len PB.out; simp only [one, List.length_cons, List.length_nil] at a b; omega)).mono ?_; rintro e wm ⟨sm, rfl, rm, em, km⟩; have KM : Below wd.heap.size wd wm := (by first | exact KB.trans (km.mono KB.size) | exact (KB.alloc KB.size _).trans (km.mono (by have := KB.size; simp; omega))); (try (replace bk9 := Lib.hid (bk9.out.below km bk9.out.lt))); (try (have bk9 := Lib.hid ((BK.new wb (.slice none 0 0) (.slice none 0 0)).below km (by simp)))); (try (have g60 := bk9.out.c0; have g61 := bk9.out.c1; have g62 := bk9.out.f0 0; have g63 := bk9.out.f0 1)); rw [PA.out, P.out, PB.out] at em; have v := merge_valid OZ.out OS.out OX.out; rw [PA.out, P.out, PB.out, v.1]; rw [v.2, U3.out] at em; have PM := Lib.hid em; clear em v km; unfold SR.val; simp only))
      all_goals go_wp2_with fail
      all_goals go_meet
      all_goals first | exact ⟨wm.heap.size, sm, rfl, rfl, (m6.out.below KM).box sm rm, PM.out⟩ | exact ⟨wb.heap.size, sm, rfl, rfl, (m6.out.below KM).fill bk9.out (fun p hp => by have hb := (m6.out.all p hp).1.lt; have h2 := KB.size; omega) (by have h1 := m6.out.be.size; have h2 := KB.size; omega) sm rm, PM.out⟩ | exact ⟨wa.heap.size, sm, rfl, rfl, (m6.out.below KM).fill bk9.out (fun p hp => by have hb := (m6.out.all p hp).1.lt; have h2 := KA.size; omega) (by have h1 := m6.out.be.size; have h2 := KA.size; omega) sm rm, PM.out⟩ | exact ⟨wd.heap.size, sm, rfl, rfl, (m6.out.below KM).fill bk9.out (fun p hp => by have hb := (m6.out.all p hp).1.lt; omega) m6.out.be.size sm rm, PM.out⟩
    case rest =>
      obtain ⟨g7, t7, rfl, rfl, mm, pp⟩ := hcut
      have m7 := Lib.hid mm
      have PT11 := Lib.hid pp
      clear mm pp m6
      have fa8 := (m7.out.bk (g := g6) (s := t6) (by simp)).c0
      have fb8 := (m7.out.bk (g := g6) (s := t6) (by simp)).c1
      have fl9 := (m7.out.bk (g := g6) (s := t6) (by simp)).lt
      go_wp2_with fail
      have Vt6 := Lib.hid (val_one PT9.out lz)
      refine (value_any t6.A t6.B t6.c t6.d t6.L t6.M wc (m7.out.rd (g := g6) (s := t6) (by simp)).a (m7.out.rd (g := g6) (s := t6) (by simp)).b (by have := (m7.out.rd (g := g6) (s := t6) (by simp)).la; omega) (m7.out.rd (g := g6) (s := t6) (by simp)).lb).mono ?_
      rintro e w10 ⟨rfl, k10⟩
      rw [Vt6.out.1, Vt6.out.2]
      have m10 := Lib.hid (m7.out.below k10)
      clear fa8 fb8 fl9 k10 m7
      have fa11 := (m10.out.bk (g := g7) (s := t7) (by simp)).c0
      have fb11 := (m10.out.bk (g := g7) (s := t7) (by simp)).c1
      have fl12 := (m10.out.bk (g := g7) (s := t7) (by simp)).lt
      go_wp2_with fail
      have Vt7 := Lib.hid (val_one PT11.out ly)
      refine (value_any t7.A t7.B t7.c t7.d t7.L t7.M w10 (m10.out.rd (g := g7) (s := t7) (by simp)).a (m10.out.rd (g := g7) (s := t7) (by simp)).b (by have := (m10.out.rd (g := g7) (s := t7) (by simp)).la; omega) (m10.out.rd (g := g7) (s := t7) (by simp)).lb).mono ?_
      rintro e w13 ⟨rfl, k13⟩
      rw [Vt7.out.1, Vt7.out.2]
      have m13 := Lib.hid (m10.out.below k13)
      clear fa11 fb11 fl12 k13 m10
      have fa14 := (m13.out.bk (g := w4.heap.size) (s := s) (by simp)).c0
      have fb14 := (m13.out.bk (g := w4.heap.size) (s := s) (by simp)).c1
      have fl15 := (m13.out.bk (g := w4.heap.size) (s := s) (by simp)).lt
      go_wp2_with fail
      have VS := Lib.hid (val_two P.out U1.out OS.out)
      refine (value_any s.A s.B s.c s.d s.L s.M w13 (m13.out.rd (g := w4.heap.size) (s := s) (by simp)).a (m13.out.rd (g := w4.heap.size) (s := s) (by simp)).b (by have := (m13.out.rd (g := w4.heap.size) (s := s) (by simp)).la; omega) (m13.out.rd (g := w4.heap.size) (s := s) (by simp)).lb).mono ?_
      rintro e w16 ⟨rfl, k16⟩
      rw [VS.out.1]
      have m16 := Lib.hid (m13.out.below k16)
      clear fa14 fb14 fl15 k16 m13
      have fa17 := (m16.out.bk (g := w4.heap.size) (s := s) (by simp)).c0
      have fb17 := (m16.out.bk (g := w4.heap.size) (s := s) (by simp)).c1
      have fl18 := (m16.out.bk (g := w4.heap.size) (s := s) (by simp)).lt
      go_wp2_with fail
      refine (sides_any s.A s.B s.c s.d s.L s.M w16 (m16.out.rd (g := w4.heap.size) (s := s) (by simp)).a (m16.out.rd (g := w4.heap.size) (s := s) (by simp)).b (by have := (m16.out.rd (g := w4.heap.size) (s := s) (by simp)).la; omega) (m16.out.rd (g := w4.heap.size) (s := s) (by simp)).lb).mono ?_
      rintro e w19 ⟨rfl, k19⟩
      rw [VS.out.2]
      have m19 := Lib.hid (m16.out.below k19)
      clear fa17 fb17 fl18 k19 m16
      have zz : (z == z) = true := by simp
      have yy : (y == y) = true := by simp
      go_wp2_with fail
      refine (awake_any _).mono ?_
      rintro e w20 ⟨rfl, k20⟩
      have m20 := Lib.hid (m19.out.below k20)
      clear  k20 m19
      go_wp2_with fail
      go_ret
      exact ⟨rfl, m20.out.be⟩

theorem law_undo_any (x y z : T) (w : World) :
    Calls Try.prog 6 #[tv x, tv y, tv z] w fun e w' => e = .returned (.bool true) ∧ Below w.heap.size w w' := by
  by_cases h0 : 100 < x.length
  · exact undo_0 x y z w h0
  by_cases h1 : 100 < y.length
  · exact undo_1 x y z w h0 h1
  by_cases h2 : 100 < z.length
  · exact undo_2 x y z w h0 h1 h2
  by_cases h3 : x = y
  · exact undo_3 x y z w h0 h1 h2 h3
  by_cases h4 : y = z
  · exact undo_4 x y z w h0 h1 h2 h3 h4
  by_cases h5 : x = z
  · exact undo_5 x y z w h0 h1 h2 h3 h4 h5
  exact undo_6 x y z w h0 h1 h2 h3 h4 h5

end Go.Proofs.Ytgenloemohcpcaa
