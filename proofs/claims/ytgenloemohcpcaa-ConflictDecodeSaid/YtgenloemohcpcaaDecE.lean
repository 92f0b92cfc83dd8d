/- Walks: Decode, the reference's Decode. -/
import Derived.Test.YtgenloemohcpcaaDecD
import Derived.Test.YtgenloemohcpcaaRMerge
import Derived.Deep.Cut
namespace Go.Proofs.Ytgenloemohcpcaa
open Go.RowKit

def DecPost (t : T) (w : World) (e : Ending) (w' : World) : Prop :=
  ∃ s : SR, e = .returned (.tuple #[s.val, .int .i64 (dec t).2]) ∧ s.Rd w' ∧ s.p = (dec t).1 ∧ Below w.heap.size w w'
theorem ret_g {w0 w : World} {g : Nat} (h : BK w g (.slice none 0 0) (.slice none 0 0)) (hg : w0.heap.size ≤ g) (be : Below w0.heap.size w0 w) (x y : Value) :
    ((w.setCell ⟨g, 0, none⟩ x).setCell ⟨g, 1, none⟩ y).cell? ⟨g, 0, none⟩ = some x ∧ ((w.setCell ⟨g, 0, none⟩ x).setCell ⟨g, 1, none⟩ y).cell? ⟨g, 1, none⟩ = some y ∧
    Below w0.heap.size w0 ((w.setCell ⟨g, 0, none⟩ x).setCell ⟨g, 1, none⟩ y) ∧ ∀ A L, RD w A L → RD ((w.setCell ⟨g, 0, none⟩ x).setCell ⟨g, 1, none⟩ y) A L := by
  have k := (h.set0 x).set1 y
  exact ⟨k.c0, k.c1, (be.setCell (p := ⟨g, 0, none⟩) hg x).setCell (p := ⟨g, 1, none⟩) hg y, fun A L hr => (hr.setSlice h.c0 x).setSlice (h.set0 x).c1 y⟩
theorem dec_of1 {t : T} (h : (gts t).2.2 ≠ 0) : dec t = (([], []), 13) := by unfold dec; rw [if_pos h]
theorem dec_of2 {t : T} (h : (gts t).2.2 = 0) (h2 : (gts (t.drop (gts t).2.1)).2.2 ≠ 0 ∨ (gts t).2.1 + (gts (t.drop (gts t).2.1)).2.1 ≠ t.length) : dec t = (([], []), 13) := by
  unfold dec; rw [if_neg (by simpa using h), if_pos h2]
theorem dec_of3 {t : T} (h : (gts t).2.2 = 0) (h2 : ¬ ((gts (t.drop (gts t).2.1)).2.2 ≠ 0 ∨ (gts t).2.1 + (gts (t.drop (gts t).2.1)).2.1 ≠ t.length)) (h3 : chk (gts t).1 (gts (t.drop (gts t).2.1)).1 ≠ 0) : dec t = (([], []), 13) := by
  unfold dec; rw [if_neg (by simpa using h), if_neg h2, if_pos h3]
theorem dec_of4 {t : T} (h : (gts t).2.2 = 0) (h2 : ¬ ((gts (t.drop (gts t).2.1)).2.2 ≠ 0 ∨ (gts t).2.1 + (gts (t.drop (gts t).2.1)).2.1 ≠ t.length)) (h3 : chk (gts t).1 (gts (t.drop (gts t).2.1)).1 = 0) : dec t = (((gts t).1, (gts (t.drop (gts t).2.1)).1), 0) := by
  unfold dec; rw [if_neg (by simpa using h), if_neg h2, if_neg (by simpa using h3)]
theorem gtsF_len : ∀ (n k : Nat) (acc : List T) (s : T) (m : Nat), s.length ≤ m → k ≤ m → (gtsF n k acc s).2.1 ≤ m
  | 0, k, acc, s, m, _, hk => by simpa [gtsF] using hk
  | n + 1, k, acc, s, m, hs, hk => by
    simp only [gtsF]
    split
    · simp
    · rename_i h
      by_cases hks : k ≤ s.length
      · have hq := gt_len (l := s.drop k) (x := (gt (s.drop k)).1) (k := (gt (s.drop k)).2.1) (c := (gt (s.drop k)).2.2) rfl (Nat.le_refl _)
        rw [List.length_drop] at hq
        exact gtsF_len n _ _ s m hs (by omega)
      · have hq := gt_len (l := s.drop k) (x := (gt (s.drop k)).1) (k := (gt (s.drop k)).2.1) (c := (gt (s.drop k)).2.2) rfl (Nat.le_refl _)
        rw [List.length_drop] at hq
        exact gtsF_len n _ _ s m hs (by omega)
theorem gts_len (s : T) : (gts s).2.1 ≤ s.length := by
  unfold gts
  split
  · simp
  · split
    · simp
    · rename_i h0 _
      have hg : gi s = ((gi s).1, (gi s).2.1, 0) := by
        have : (gi s).2.2 = 0 := by simpa using h0
        rw [← this]
      exact gtsF_len _ _ _ _ _ (Nat.le_refl _) (gi_len hg)
theorem gtsF_num : ∀ (n k : Nat) (acc : List T) (s : T), (gtsF n k acc s).1.length ≤ acc.length + n
  | 0, k, acc, s => by simp [gtsF]
  | n + 1, k, acc, s => by
    simp only [gtsF]
    split
    · simp
    · have := gtsF_num n (k + (gt (s.drop k)).2.1) (acc ++ [(gt (s.drop k)).1]) s
      rw [List.length_append, List.length_singleton] at this
      omega
theorem gts_num (s : T) : (gts s).1.length ≤ 1000 := by
  unfold gts
  split
  · simp
  · split
    · simp
    · rename_i h
      have := gtsF_num (gi s).1 (gi s).2.1 [] s
      simp at this
      omega

theorem getTexts_g {s : T} {L : List T} {n : Nat} {c : Int} (hg : gts s = (L, n, c)) (w : World) (e : Ending) (w' : World) (h : TextsPost s w e w') : ∃ A ca, e = .returned (.tuple #[.slice A L.length ca, .int .i64 n, .int .i64 c]) ∧ L.length ≤ ca ∧ RD w' A L ∧ Below w.heap.size w w' := by
  unfold TextsPost at h; rw [hg] at h; exact h

set_option maxRecDepth 100000 in
set_option maxHeartbeats 2000000 in
theorem decode_any (t : T) (w : World) (hl : t.length ≤ 1000000000) : Calls Try.prog 25 #[tv t] w (DecPost t w) := by
  have bk := BK.new w (.slice none 0 0) (.slice none 0 0)
  have k0 : Below w.heap.size w (w.alloc (Obj.cells #[Value.slice none 0 0, Value.slice none 0 0] 24)) := (Below.refl _ _).alloc (Nat.le_refl _) _
  have BKH := Lib.hid bk
  have K0 := Lib.hid k0
  clear bk k0
  obtain ⟨L, n, c, hg⟩ : ∃ L n c, gts t = (L, n, c) := ⟨_, _, _, rfl⟩
  have e0 : (gts t).1 = L := by rw [hg]
  have e1 : (gts t).2.1 = n := by rw [hg]
  have e2 : (gts t).2.2 = c := by rw [hg]
  obtain ⟨M, m, d, hg2⟩ : ∃ M m d, gts (t.drop n) = (M, m, d) := ⟨_, _, _, rfl⟩
  have d0 : (gts (t.drop n)).1 = M := by rw [hg2]
  have d1 : (gts (t.drop n)).2.1 = m := by rw [hg2]
  have d2 : (gts (t.drop n)).2.2 = d := by rw [hg2]
  have hn := gts_len t
  have hm := gts_len (t.drop n)
  have hL := gts_num t
  have hM := gts_num (t.drop n)
  rw [List.length_drop, d1] at hm
  rw [e1] at hn
  rw [e0] at hL
  rw [d0] at hM
  have ed := ext_drop t n
  have P1 := Lib.hid (@getTexts_g t L n c hg)
  have P2 := Lib.hid (@getTexts_g (t.drop n) M m d hg2)
  have D1 := Lib.hid (@dec_of1 t)
  have D2 := Lib.hid (@dec_of2 t)
  have D3 := Lib.hid (@dec_of3 t)
  have D4 := Lib.hid (@dec_of4 t)
  replace D1 := Lib.hid (by have := D1.out; rw [e2] at this; exact this)
  replace D2 := Lib.hid (by have := D2.out; rw [e2, e1, d2, d1] at this; exact this)
  replace D3 := Lib.hid (by have := D3.out; rw [e2, e1, d2, d1, e0, d0] at this; exact this)
  replace D4 := Lib.hid (by have := D4.out; rw [e2, e1, d2, d1, e0, d0] at this; exact this)
  clear e0 e1 e2 d0 d1 d2 hg hg2
  by_cases h0 : c = 0
  · by_cases h1 : d ≠ 0 ∨ n + m ≠ t.length
    · have D := Lib.hid (D2.out h0 h1)
      have q0 : (c != 0) = false := by simpa using h0
      clear h0
      clear D1 D2 D3 D4
      by_cases h2 : d = 0
      · have q1 : (d != 0) = false := by simpa using h2
        have q2 : ((n : Int) + (m : Int) != (t.length : Int)) = true := by simp; omega
        clear h2 h1
        go_enter Try.func25, Try.ntmps25
        go_wp2_with fail
        refine (getTexts_any t _ hl).mono ?_
        intro e w1 hp
        obtain ⟨A, ca, rfl, hca, rA, k1⟩ := P1.out _ _ _ hp
        have B1 := Lib.hid (BKH.out.below k1 BKH.out.lt)
        have K1 := Lib.hid (K0.out.trans (k1.mono K0.out.size))
        clear k1 hp
        have x0 := B1.out.c0
        have x1 := B1.out.c1
        have x2 := B1.out.f0 0
        have x3 := B1.out.f0 1
        go_wp2_with fail
        refine (getTexts_any (t.drop n) _ (by rw [List.length_drop]; omega)).mono ?_
        intro e w2 hp
        obtain ⟨B, cb, rfl, hcb, rB, k2⟩ := P2.out _ _ _ hp
        clear x0 x1 x2 x3
        have B2 := Lib.hid (B1.out.below k2 B1.out.lt)
        have K2 := Lib.hid (K1.out.trans (k2.mono K1.out.size))
        replace rA := rA.below k2
        clear k2 hp
        have x0 := B2.out.c0
        have x1 := B2.out.c1
        have x2 := B2.out.f0 0
        have x3 := B2.out.f0 1
        go_wp2_with fail
        obtain ⟨g0, g1, g2, g3⟩ := ret_g B2.out (Nat.le_refl _) K2.out (.slice none 0 0) (.slice none 0 0)
        refine bodyPost_ret (v := .tuple #[sr0.val, .int .i64 13]) (by simp [results, Try.results25, go_sem, g0, g1, sr0, SR.val]) rfl ⟨sr0, ?_, sr0_rd _, ?_, g2⟩
        · rw [D.out]
        · rw [D.out]; rfl
      · have q1 : (d != 0) = true := by simpa using h2
        clear h2 h1
        go_enter Try.func25, Try.ntmps25
        go_wp2_with fail
        refine (getTexts_any t _ hl).mono ?_
        intro e w1 hp
        obtain ⟨A, ca, rfl, hca, rA, k1⟩ := P1.out _ _ _ hp
        have B1 := Lib.hid (BKH.out.below k1 BKH.out.lt)
        have K1 := Lib.hid (K0.out.trans (k1.mono K0.out.size))
        clear k1 hp
        have x0 := B1.out.c0
        have x1 := B1.out.c1
        have x2 := B1.out.f0 0
        have x3 := B1.out.f0 1
        go_wp2_with fail
        refine (getTexts_any (t.drop n) _ (by rw [List.length_drop]; omega)).mono ?_
        intro e w2 hp
        obtain ⟨B, cb, rfl, hcb, rB, k2⟩ := P2.out _ _ _ hp
        clear x0 x1 x2 x3
        have B2 := Lib.hid (B1.out.below k2 B1.out.lt)
        have K2 := Lib.hid (K1.out.trans (k2.mono K1.out.size))
        replace rA := rA.below k2
        clear k2 hp
        have x0 := B2.out.c0
        have x1 := B2.out.c1
        have x2 := B2.out.f0 0
        have x3 := B2.out.f0 1
        go_wp2_with fail
        obtain ⟨g0, g1, g2, g3⟩ := ret_g B2.out (Nat.le_refl _) K2.out (.slice none 0 0) (.slice none 0 0)
        refine bodyPost_ret (v := .tuple #[sr0.val, .int .i64 13]) (by simp [results, Try.results25, go_sem, g0, g1, sr0, SR.val]) rfl ⟨sr0, ?_, sr0_rd _, ?_, g2⟩
        · rw [D.out]
        · rw [D.out]; rfl
    · have h1' := not_or.1 h1
      have q0 : (c != 0) = false := by simpa using h0
      have q1 : (d != 0) = false := by simpa using h1'.1
      have q2 : ((n : Int) + (m : Int) != (t.length : Int)) = false := by have := h1'.2; simp at this ⊢; omega
      by_cases h2 : chk L M = 0
      · have D := Lib.hid (D4.out h0 h1 h2)
        have q3 : (chk L M != 0) = false := by simpa using h2
        clear h0 h1 h1' h2 D1 D2 D3 D4
        go_enter Try.func25, Try.ntmps25
        go_wp2_with fail
        refine (getTexts_any t _ hl).mono ?_
        intro e w1 hp
        obtain ⟨A, ca, rfl, hca, rA, k1⟩ := P1.out _ _ _ hp
        have B1 := Lib.hid (BKH.out.below k1 BKH.out.lt)
        have K1 := Lib.hid (K0.out.trans (k1.mono K0.out.size))
        clear k1 hp
        have x0 := B1.out.c0
        have x1 := B1.out.c1
        have x2 := B1.out.f0 0
        have x3 := B1.out.f0 1
        go_wp2_with fail
        refine (getTexts_any (t.drop n) _ (by rw [List.length_drop]; omega)).mono ?_
        intro e w2 hp
        obtain ⟨B, cb, rfl, hcb, rB, k2⟩ := P2.out _ _ _ hp
        clear x0 x1 x2 x3
        have B2 := Lib.hid (B1.out.below k2 B1.out.lt)
        have K2 := Lib.hid (K1.out.trans (k2.mono K1.out.size))
        replace rA := rA.below k2
        clear k2 hp
        have x0 := B2.out.c0
        have x1 := B2.out.c1
        have x2 := B2.out.f0 0
        have x3 := B2.out.f0 1
        have lt2 := B2.out.lt
        go_wp2_with fail
        have B3 := Lib.hid (B2.out.alloc (Obj.cells #[Value.slice A L.length ca, Value.slice B M.length cb] 24))
        have K3 := Lib.hid (K2.out.alloc K2.out.size (Obj.cells #[Value.slice A L.length ca, Value.slice B M.length cb] 24))
        have N3 := Lib.hid (BK.new w2 (.slice A L.length ca) (.slice B M.length cb))
        have rA3 : ∀ X N, RD w2 X N → RD (w2.alloc (Obj.cells #[Value.slice A L.length ca, Value.slice B M.length cb] 24)) X N := fun X N h => h.alloc _
        generalize w2.alloc (Obj.cells #[Value.slice A L.length ca, Value.slice B M.length cb] 24) = W3 at *
        refine (check_any A B ca cb L M W3 (rA3 A L rA) (rA3 B M rB) (by omega) (by omega)).mono ?_
        rintro e w3 ⟨rfl, k3⟩
        have B4 := Lib.hid (B3.out.below k3 B3.out.lt)
        have N4 := Lib.hid (N3.out.below k3 N3.out.lt)
        have K4 := Lib.hid (K3.out.trans (k3.mono K3.out.size))
        have rA4 := (rA3 A L rA).below k3
        have rB4 := (rA3 B M rB).below k3
        clear k3 x0 x1 x2 x3 rA rB rA3
        have x0 := B4.out.c0
        have x1 := B4.out.c1
        have x2 := B4.out.f0 0
        have x3 := B4.out.f0 1
        have y0 := N4.out.c0
        have y1 := N4.out.c1
        go_wp2_with fail
        obtain ⟨g0, g1, g2, g3⟩ := ret_g B4.out (Nat.le_refl _) K4.out (.slice A L.length ca) (.slice B M.length cb)
        refine bodyPost_ret (v := .tuple #[sv A B L.length ca M.length cb, .int .i64 0]) (by simp [results, Try.results25, go_sem, g0, g1]) rfl ⟨⟨A, B, ca, cb, L, M⟩, ?_, ⟨g3 _ _ rA4, g3 _ _ rB4, hca, hcb, by simp only; omega, by simp only; omega⟩, ?_, g2⟩
        · rw [D.out]; rfl
        · rw [D.out]; rfl
      · have D := Lib.hid (D3.out h0 h1 h2)
        have q3 : (chk L M != 0) = true := by simpa using h2
        clear h0 h1 h1' h2 D1 D2 D3 D4
        go_enter Try.func25, Try.ntmps25
        go_wp2_with fail
        refine (getTexts_any t _ hl).mono ?_
        intro e w1 hp
        obtain ⟨A, ca, rfl, hca, rA, k1⟩ := P1.out _ _ _ hp
        have B1 := Lib.hid (BKH.out.below k1 BKH.out.lt)
        have K1 := Lib.hid (K0.out.trans (k1.mono K0.out.size))
        clear k1 hp
        have x0 := B1.out.c0
        have x1 := B1.out.c1
        have x2 := B1.out.f0 0
        have x3 := B1.out.f0 1
        go_wp2_with fail
        refine (getTexts_any (t.drop n) _ (by rw [List.length_drop]; omega)).mono ?_
        intro e w2 hp
        obtain ⟨B, cb, rfl, hcb, rB, k2⟩ := P2.out _ _ _ hp
        clear x0 x1 x2 x3
        have B2 := Lib.hid (B1.out.below k2 B1.out.lt)
        have K2 := Lib.hid (K1.out.trans (k2.mono K1.out.size))
        replace rA := rA.below k2
        clear k2 hp
        have x0 := B2.out.c0
        have x1 := B2.out.c1
        have x2 := B2.out.f0 0
        have x3 := B2.out.f0 1
        have lt2 := B2.out.lt
        go_wp2_with fail
        have B3 := Lib.hid (B2.out.alloc (Obj.cells #[Value.slice A L.length ca, Value.slice B M.length cb] 24))
        have K3 := Lib.hid (K2.out.alloc K2.out.size (Obj.cells #[Value.slice A L.length ca, Value.slice B M.length cb] 24))
        have N3 := Lib.hid (BK.new w2 (.slice A L.length ca) (.slice B M.length cb))
        have rA3 : ∀ X N, RD w2 X N → RD (w2.alloc (Obj.cells #[Value.slice A L.length ca, Value.slice B M.length cb] 24)) X N := fun X N h => h.alloc _
        generalize w2.alloc (Obj.cells #[Value.slice A L.length ca, Value.slice B M.length cb] 24) = W3 at *
        refine (check_any A B ca cb L M W3 (rA3 A L rA) (rA3 B M rB) (by omega) (by omega)).mono ?_
        rintro e w3 ⟨rfl, k3⟩
        have B4 := Lib.hid (B3.out.below k3 B3.out.lt)
        have N4 := Lib.hid (N3.out.below k3 N3.out.lt)
        have K4 := Lib.hid (K3.out.trans (k3.mono K3.out.size))
        have rA4 := (rA3 A L rA).below k3
        have rB4 := (rA3 B M rB).below k3
        clear k3 x0 x1 x2 x3 rA rB rA3
        have x0 := B4.out.c0
        have x1 := B4.out.c1
        have x2 := B4.out.f0 0
        have x3 := B4.out.f0 1
        have y0 := N4.out.c0
        have y1 := N4.out.c1
        go_wp2_with fail
        obtain ⟨g0, g1, g2, g3⟩ := ret_g B4.out (Nat.le_refl _) K4.out (.slice none 0 0) (.slice none 0 0)
        refine bodyPost_ret (v := .tuple #[sr0.val, .int .i64 13]) (by simp [results, Try.results25, go_sem, g0, g1, sr0, SR.val]) rfl ⟨sr0, ?_, sr0_rd _, ?_, g2⟩
        · rw [D.out]
        · rw [D.out]; rfl
  · have D := Lib.hid (D1.out h0)
    have q0 : (c != 0) = true := by simpa using h0
    clear h0 D1 D2 D3 D4
    go_enter Try.func25, Try.ntmps25
    go_wp2_with fail
    refine (getTexts_any t _ hl).mono ?_
    intro e w1 hp
    obtain ⟨A, ca, rfl, hca, rA, k1⟩ := P1.out _ _ _ hp
    have B1 := Lib.hid (BKH.out.below k1 BKH.out.lt)
    have K1 := Lib.hid (K0.out.trans (k1.mono K0.out.size))
    clear k1 hp
    have x0 := B1.out.c0
    have x1 := B1.out.c1
    have x2 := B1.out.f0 0
    have x3 := B1.out.f0 1
    go_wp2_with fail
    obtain ⟨g0, g1, g2, g3⟩ := ret_g B1.out (Nat.le_refl _) K1.out (.slice none 0 0) (.slice none 0 0)
    refine bodyPost_ret (v := .tuple #[sr0.val, .int .i64 13]) (by simp [results, Try.results25, go_sem, g0, g1, sr0, SR.val]) rfl ⟨sr0, ?_, sr0_rd _, ?_, g2⟩
    · rw [D.out]
    · rw [D.out]; rfl

set_option maxRecDepth 100000 in
set_option maxHeartbeats 2000000 in
theorem rdecode_any (t : T) (w : World) (hl : t.length ≤ 1000000000) : Calls Try.prog 26 #[tv t] w (DecPost t w) := by
  have bk := BK.new w (.slice none 0 0) (.slice none 0 0)
  have k0 : Below w.heap.size w (w.alloc (Obj.cells #[Value.slice none 0 0, Value.slice none 0 0] 24)) := (Below.refl _ _).alloc (Nat.le_refl _) _
  have BKH := Lib.hid bk
  have K0 := Lib.hid k0
  clear bk k0
  obtain ⟨L, n, c, hg⟩ : ∃ L n c, gts t = (L, n, c) := ⟨_, _, _, rfl⟩
  have e0 : (gts t).1 = L := by rw [hg]
  have e1 : (gts t).2.1 = n := by rw [hg]
  have e2 : (gts t).2.2 = c := by rw [hg]
  obtain ⟨M, m, d, hg2⟩ : ∃ M m d, gts (t.drop n) = (M, m, d) := ⟨_, _, _, rfl⟩
  have d0 : (gts (t.drop n)).1 = M := by rw [hg2]
  have d1 : (gts (t.drop n)).2.1 = m := by rw [hg2]
  have d2 : (gts (t.drop n)).2.2 = d := by rw [hg2]
  have hn := gts_len t
  have hm := gts_len (t.drop n)
  have hL := gts_num t
  have hM := gts_num (t.drop n)
  rw [List.length_drop, d1] at hm
  rw [e1] at hn
  rw [e0] at hL
  rw [d0] at hM
  have ed := ext_drop t n
  have P1 := Lib.hid (@getTexts_g t L n c hg)
  have P2 := Lib.hid (@getTexts_g (t.drop n) M m d hg2)
  have D1 := Lib.hid (@dec_of1 t)
  have D2 := Lib.hid (@dec_of2 t)
  have D3 := Lib.hid (@dec_of3 t)
  have D4 := Lib.hid (@dec_of4 t)
  replace D1 := Lib.hid (by have := D1.out; rw [e2] at this; exact this)
  replace D2 := Lib.hid (by have := D2.out; rw [e2, e1, d2, d1] at this; exact this)
  replace D3 := Lib.hid (by have := D3.out; rw [e2, e1, d2, d1, e0, d0] at this; exact this)
  replace D4 := Lib.hid (by have := D4.out; rw [e2, e1, d2, d1, e0, d0] at this; exact this)
  clear e0 e1 e2 d0 d1 d2 hg hg2
  by_cases h0 : c = 0
  · by_cases h1 : d ≠ 0 ∨ n + m ≠ t.length
    · have D := Lib.hid (D2.out h0 h1)
      have q0 : (c != 0) = false := by simpa using h0
      clear h0
      clear D1 D2 D3 D4
      by_cases h2 : d = 0
      · have q1 : (d != 0) = false := by simpa using h2
        have q2 : ((n : Int) + (m : Int) != (t.length : Int)) = true := by simp; omega
        clear h2 h1
        go_enter Try.func26, Try.ntmps26
        go_wp2_with fail
        refine (rgetTexts_any t _ hl).mono ?_
        intro e w1 hp
        obtain ⟨A, ca, rfl, hca, rA, k1⟩ := P1.out _ _ _ hp
        have B1 := Lib.hid (BKH.out.below k1 BKH.out.lt)
        have K1 := Lib.hid (K0.out.trans (k1.mono K0.out.size))
        clear k1 hp
        have x0 := B1.out.c0
        have x1 := B1.out.c1
        have x2 := B1.out.f0 0
        have x3 := B1.out.f0 1
        go_wp2_with fail
        refine (rgetTexts_any (t.drop n) _ (by rw [List.length_drop]; omega)).mono ?_
        intro e w2 hp
        obtain ⟨B, cb, rfl, hcb, rB, k2⟩ := P2.out _ _ _ hp
        clear x0 x1 x2 x3
        have B2 := Lib.hid (B1.out.below k2 B1.out.lt)
        have K2 := Lib.hid (K1.out.trans (k2.mono K1.out.size))
        replace rA := rA.below k2
        clear k2 hp
        have x0 := B2.out.c0
        have x1 := B2.out.c1
        have x2 := B2.out.f0 0
        have x3 := B2.out.f0 1
        go_upto_region 6 with (fail)
        have B3 := Lib.hid (B2.out.alloc (Obj.cells #[Value.slice A L.length ca, Value.slice B M.length cb] 24))
        have K3 := Lib.hid (K2.out.alloc K2.out.size (Obj.cells #[Value.slice A L.length ca, Value.slice B M.length cb] 24))
        generalize w2.alloc (Obj.cells #[Value.slice A L.length ca, Value.slice B M.length cb] 24) = W3 at *
        clear x0 x1 x2 x3
        have x0 := B3.out.c0
        have x1 := B3.out.c1
        have x2 := B3.out.f0 0
        have x3 := B3.out.f0 1
        go_wp2_with fail
        obtain ⟨g0, g1, g2, g3⟩ := ret_g B3.out (Nat.le_refl _) K3.out (.slice none 0 0) (.slice none 0 0)
        refine bodyPost_ret (v := .tuple #[sr0.val, .int .i64 13]) (by simp [results, Try.results26, go_sem, g0, g1, sr0, SR.val]) rfl ⟨sr0, ?_, sr0_rd _, ?_, g2⟩
        · rw [D.out]
        · rw [D.out]; rfl
      · have q1 : (d != 0) = true := by simpa using h2
        clear h2 h1
        go_enter Try.func26, Try.ntmps26
        go_wp2_with fail
        refine (rgetTexts_any t _ hl).mono ?_
        intro e w1 hp
        obtain ⟨A, ca, rfl, hca, rA, k1⟩ := P1.out _ _ _ hp
        have B1 := Lib.hid (BKH.out.below k1 BKH.out.lt)
        have K1 := Lib.hid (K0.out.trans (k1.mono K0.out.size))
        clear k1 hp
        have x0 := B1.out.c0
        have x1 := B1.out.c1
        have x2 := B1.out.f0 0
        have x3 := B1.out.f0 1
        go_wp2_with fail
        refine (rgetTexts_any (t.drop n) _ (by rw [List.length_drop]; omega)).mono ?_
        intro e w2 hp
        obtain ⟨B, cb, rfl, hcb, rB, k2⟩ := P2.out _ _ _ hp
        clear x0 x1 x2 x3
        have B2 := Lib.hid (B1.out.below k2 B1.out.lt)
        have K2 := Lib.hid (K1.out.trans (k2.mono K1.out.size))
        replace rA := rA.below k2
        clear k2 hp
        have x0 := B2.out.c0
        have x1 := B2.out.c1
        have x2 := B2.out.f0 0
        have x3 := B2.out.f0 1
        go_upto_region 6 with (fail)
        have B3 := Lib.hid (B2.out.alloc (Obj.cells #[Value.slice A L.length ca, Value.slice B M.length cb] 24))
        have K3 := Lib.hid (K2.out.alloc K2.out.size (Obj.cells #[Value.slice A L.length ca, Value.slice B M.length cb] 24))
        generalize w2.alloc (Obj.cells #[Value.slice A L.length ca, Value.slice B M.length cb] 24) = W3 at *
        clear x0 x1 x2 x3
        have x0 := B3.out.c0
        have x1 := B3.out.c1
        have x2 := B3.out.f0 0
        have x3 := B3.out.f0 1
        go_wp2_with fail
        obtain ⟨g0, g1, g2, g3⟩ := ret_g B3.out (Nat.le_refl _) K3.out (.slice none 0 0) (.slice none 0 0)
        refine bodyPost_ret (v := .tuple #[sr0.val, .int .i64 13]) (by simp [results, Try.results26, go_sem, g0, g1, sr0, SR.val]) rfl ⟨sr0, ?_, sr0_rd _, ?_, g2⟩
        · rw [D.out]
        · rw [D.out]; rfl
    · have h1' := not_or.1 h1
      have q0 : (c != 0) = false := by simpa using h0
      have q1 : (d != 0) = false := by simpa using h1'.1
      have q2 : ((n : Int) + (m : Int) != (t.length : Int)) = false := by have := h1'.2; simp at this ⊢; omega
      by_cases h2 : chk L M = 0
      · have D := Lib.hid (D4.out h0 h1 h2)
        have q3 : (chk L M != 0) = false := by simpa using h2
        clear h0 h1 h1' h2 D1 D2 D3 D4
        go_enter Try.func26, Try.ntmps26
        go_wp2_with fail
        refine (rgetTexts_any t _ hl).mono ?_
        intro e w1 hp
        obtain ⟨A, ca, rfl, hca, rA, k1⟩ := P1.out _ _ _ hp
        have B1 := Lib.hid (BKH.out.below k1 BKH.out.lt)
        have K1 := Lib.hid (K0.out.trans (k1.mono K0.out.size))
        clear k1 hp
        have x0 := B1.out.c0
        have x1 := B1.out.c1
        have x2 := B1.out.f0 0
        have x3 := B1.out.f0 1
        go_wp2_with fail
        refine (rgetTexts_any (t.drop n) _ (by rw [List.length_drop]; omega)).mono ?_
        intro e w2 hp
        obtain ⟨B, cb, rfl, hcb, rB, k2⟩ := P2.out _ _ _ hp
        clear x0 x1 x2 x3
        have B2 := Lib.hid (B1.out.below k2 B1.out.lt)
        have K2 := Lib.hid (K1.out.trans (k2.mono K1.out.size))
        replace rA := rA.below k2
        clear k2 hp
        have x0 := B2.out.c0
        have x1 := B2.out.c1
        have x2 := B2.out.f0 0
        have x3 := B2.out.f0 1
        have lt2 := B2.out.lt
        go_wp2_with fail
        have B3 := Lib.hid (B2.out.alloc (Obj.cells #[Value.slice A L.length ca, Value.slice B M.length cb] 24))
        have K3 := Lib.hid (K2.out.alloc K2.out.size (Obj.cells #[Value.slice A L.length ca, Value.slice B M.length cb] 24))
        have N3 := Lib.hid (BK.new w2 (.slice A L.length ca) (.slice B M.length cb))
        have rA3 : ∀ X N, RD w2 X N → RD (w2.alloc (Obj.cells #[Value.slice A L.length ca, Value.slice B M.length cb] 24)) X N := fun X N h => h.alloc _
        generalize w2.alloc (Obj.cells #[Value.slice A L.length ca, Value.slice B M.length cb] 24) = W3 at *
        refine (rcheck_any A B ca cb L M W3 (rA3 A L rA) (rA3 B M rB) (by omega) (by omega)).mono ?_
        rintro e w3 ⟨rfl, k3⟩
        have B4 := Lib.hid (B3.out.below k3 B3.out.lt)
        have N4 := Lib.hid (N3.out.below k3 N3.out.lt)
        have K4 := Lib.hid (K3.out.trans (k3.mono K3.out.size))
        have rA4 := (rA3 A L rA).below k3
        have rB4 := (rA3 B M rB).below k3
        clear k3 x0 x1 x2 x3 rA rB rA3
        have x0 := B4.out.c0
        have x1 := B4.out.c1
        have x2 := B4.out.f0 0
        have x3 := B4.out.f0 1
        have y0 := N4.out.c0
        have y1 := N4.out.c1
        go_wp2_with fail
        obtain ⟨g0, g1, g2, g3⟩ := ret_g B4.out (Nat.le_refl _) K4.out (.slice A L.length ca) (.slice B M.length cb)
        refine bodyPost_ret (v := .tuple #[sv A B L.length ca M.length cb, .int .i64 0]) (by simp [results, Try.results26, go_sem, g0, g1]) rfl ⟨⟨A, B, ca, cb, L, M⟩, ?_, ⟨g3 _ _ rA4, g3 _ _ rB4, hca, hcb, by simp only; omega, by simp only; omega⟩, ?_, g2⟩
        · rw [D.out]; rfl
        · rw [D.out]; rfl
      · have D := Lib.hid (D3.out h0 h1 h2)
        have q3 : (chk L M != 0) = true := by simpa using h2
        clear h0 h1 h1' h2 D1 D2 D3 D4
        go_enter Try.func26, Try.ntmps26
        go_wp2_with fail
        refine (rgetTexts_any t _ hl).mono ?_
        intro e w1 hp
        obtain ⟨A, ca, rfl, hca, rA, k1⟩ := P1.out _ _ _ hp
        have B1 := Lib.hid (BKH.out.below k1 BKH.out.lt)
        have K1 := Lib.hid (K0.out.trans (k1.mono K0.out.size))
        clear k1 hp
        have x0 := B1.out.c0
        have x1 := B1.out.c1
        have x2 := B1.out.f0 0
        have x3 := B1.out.f0 1
        go_wp2_with fail
        refine (rgetTexts_any (t.drop n) _ (by rw [List.length_drop]; omega)).mono ?_
        intro e w2 hp
        obtain ⟨B, cb, rfl, hcb, rB, k2⟩ := P2.out _ _ _ hp
        clear x0 x1 x2 x3
        have B2 := Lib.hid (B1.out.below k2 B1.out.lt)
        have K2 := Lib.hid (K1.out.trans (k2.mono K1.out.size))
        replace rA := rA.below k2
        clear k2 hp
        have x0 := B2.out.c0
        have x1 := B2.out.c1
        have x2 := B2.out.f0 0
        have x3 := B2.out.f0 1
        have lt2 := B2.out.lt
        go_wp2_with fail
        have B3 := Lib.hid (B2.out.alloc (Obj.cells #[Value.slice A L.length ca, Value.slice B M.length cb] 24))
        have K3 := Lib.hid (K2.out.alloc K2.out.size (Obj.cells #[Value.slice A L.length ca, Value.slice B M.length cb] 24))
        have N3 := Lib.hid (BK.new w2 (.slice A L.length ca) (.slice B M.length cb))
        have rA3 : ∀ X N, RD w2 X N → RD (w2.alloc (Obj.cells #[Value.slice A L.length ca, Value.slice B M.length cb] 24)) X N := fun X N h => h.alloc _
        generalize w2.alloc (Obj.cells #[Value.slice A L.length ca, Value.slice B M.length cb] 24) = W3 at *
        refine (rcheck_any A B ca cb L M W3 (rA3 A L rA) (rA3 B M rB) (by omega) (by omega)).mono ?_
        rintro e w3 ⟨rfl, k3⟩
        have B4 := Lib.hid (B3.out.below k3 B3.out.lt)
        have N4 := Lib.hid (N3.out.below k3 N3.out.lt)
        have K4 := Lib.hid (K3.out.trans (k3.mono K3.out.size))
        have rA4 := (rA3 A L rA).below k3
        have rB4 := (rA3 B M rB).below k3
        clear k3 x0 x1 x2 x3 rA rB rA3
        have x0 := B4.out.c0
        have x1 := B4.out.c1
        have x2 := B4.out.f0 0
        have x3 := B4.out.f0 1
        have y0 := N4.out.c0
        have y1 := N4.out.c1
        go_wp2_with fail
        obtain ⟨g0, g1, g2, g3⟩ := ret_g B4.out (Nat.le_refl _) K4.out (.slice none 0 0) (.slice none 0 0)
        refine bodyPost_ret (v := .tuple #[sr0.val, .int .i64 13]) (by simp [results, Try.results26, go_sem, g0, g1, sr0, SR.val]) rfl ⟨sr0, ?_, sr0_rd _, ?_, g2⟩
        · rw [D.out]
        · rw [D.out]; rfl
  · have D := Lib.hid (D1.out h0)
    have q0 : (c != 0) = true := by simpa using h0
    clear h0 D1 D2 D3 D4
    go_enter Try.func26, Try.ntmps26
    go_wp2_with fail
    refine (rgetTexts_any t _ hl).mono ?_
    intro e w1 hp
    obtain ⟨A, ca, rfl, hca, rA, k1⟩ := P1.out _ _ _ hp
    have B1 := Lib.hid (BKH.out.below k1 BKH.out.lt)
    have K1 := Lib.hid (K0.out.trans (k1.mono K0.out.size))
    clear k1 hp
    have x0 := B1.out.c0
    have x1 := B1.out.c1
    have x2 := B1.out.f0 0
    have x3 := B1.out.f0 1
    go_wp2_with fail
    obtain ⟨g0, g1, g2, g3⟩ := ret_g B1.out (Nat.le_refl _) K1.out (.slice none 0 0) (.slice none 0 0)
    refine bodyPost_ret (v := .tuple #[sr0.val, .int .i64 13]) (by simp [results, Try.results26, go_sem, g0, g1, sr0, SR.val]) rfl ⟨sr0, ?_, sr0_rd _, ?_, g2⟩
    · rw [D.out]
    · rw [D.out]; rfl

end Go.Proofs.Ytgenloemohcpcaa
