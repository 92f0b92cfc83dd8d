/- Walk: slices.rotateCmpFunc. -/
import Derived.Test.YtejipflkdigbbaaSwr
namespace Go.Proofs.Ytejipflkdigbbaa
open Go.RowKit

theorem ot_len {w : World} {B g cap n : Nat} {L : List Int} (o : OT w B (.slice (some ⟨g, 0, none⟩) n cap) L) : L.length = n := by
  obtain ⟨A', c', e', -⟩ := o.form
  cases e'
  rfl
def Rot (g cap n B : Nat) (L : List Int) (w : World) (e : Ending) (w' : World) : Prop := e = .returned (.tuple #[]) ∧ OT w' B (.slice (some ⟨g, 0, none⟩) n cap) L ∧ w.grownBy w' (some g)
theorem swapRange_int (g cap n B : Nat) (P X M Y Q : List Int) (f : Value) (a b k : Int) (w : World) (hX : X.length = Y.length) (hn2 : n ≤ 1000)
    (ho : OT w B (.slice (some ⟨g, 0, none⟩) n cap) (P ++ X ++ M ++ Y ++ Q)) (ha : a = P.length) (hb : b = P.length + X.length + M.length) (hk : k = X.length) :
    Calls Try.prog 82 #[.slice (some ⟨g, 0, none⟩) n cap, .int .i64 a, .int .i64 b, .int .i64 k, f] w (Rot g cap n B (P ++ Y ++ M ++ X ++ Q) w) := by
  have h := swapRange_any g cap n B P X M Y Q f w hX (ot_len ho) hn2 ho
  rw [ha, hb, hk]
  unfold Rot
  simpa using h

set_option maxHeartbeats 4000000 in
set_option maxRecDepth 100000 in
theorem rotate_any (g cap n B : Nat) (P X Y Q : List Int) (f : Value) (a m b : Int) (w : World) (hX : X ≠ []) (hY : Y ≠ []) (hn2 : n ≤ 1000)
    (ho : OT w B (.slice (some ⟨g, 0, none⟩) n cap) (P ++ X ++ Y ++ Q)) (ha : a = P.length) (hm : m = P.length + X.length) (hb : b = P.length + X.length + Y.length) :
    Calls Try.prog 73 #[.slice (some ⟨g, 0, none⟩) n cap, .int .i64 a, .int .i64 m, .int .i64 b, f] w (Rot g cap n B (P ++ Y ++ X ++ Q) w) := by
  have hlen : P.length + X.length + Y.length + Q.length = n := by have := ot_len ho; simpa [Nat.add_assoc] using this
  have HO := Lib.hid ho
  have hx0 : 0 < X.length := List.length_pos_iff.2 hX
  have hy0 : 0 < Y.length := List.length_pos_iff.2 hY
  have i1 : Hid (m - a = (X.length : Int)) := Lib.hid (by omega)
  have i2 : Hid (b - m = (Y.length : Int)) := Lib.hid (by omega)
  have bd : 0 ≤ a ∧ a < m ∧ m < b ∧ b ≤ 1000 := by omega
  have HM := Lib.hid hm
  have HXY : Hid (X ≠ [] ∧ Y ≠ []) := Lib.hid ⟨hX, hY⟩
  clear ho hX hY hlen hm ha hb hx0 hy0
  go_enter Try.func73, Try.ntmps73
  go_wp2
  go_loopw [10, 11] (fun i j wr => ∃ P' X' Y' Q' : List Int, i = .int .i64 (X'.length : Nat) ∧ j = .int .i64 (Y'.length : Nat) ∧ Hid (m = P'.length + X'.length) ∧ Hid (X' ≠ [] ∧ Y' ≠ []) ∧ Hid (P' ++ Y' ++ X' ++ Q' = P ++ Y ++ X ++ Q) ∧ Hid (OT wr B (.slice (some ⟨g, 0, none⟩) n cap) (P' ++ X' ++ Y' ++ Q')) ∧ Hid (w.grownBy wr (some g))) (fun i j _ => (intOf i).toNat + (intOf j).toNat)
  case atStart => exact ⟨P, X, Y, Q, by rw [i1.out], by rw [i2.out], HM, HXY, Lib.hid rfl, HO, Lib.hid (World.grownBy.refl _ _)⟩
  case round =>
    obtain ⟨P', X', Y', Q', rfl, rfl, EM, EN, EQ, O, G⟩ := hrel
    have hl2 : Hid (P'.length + X'.length + Y'.length + Q'.length = n) := Lib.hid (by have := ot_len O.out; simpa [Nat.add_assoc] using this)
    have hx1 : 0 < X'.length := List.length_pos_iff.2 EN.out.1
    have hy1 : 0 < Y'.length := List.length_pos_iff.2 EN.out.2
    have hb1 : (X'.length : Int) ≤ m ∧ m + Y'.length ≤ 1000 := by have := EM.out; have := hl2.out; omega
    obtain ⟨i, hi⟩ : ∃ i, X'.length = i := ⟨_, rfl⟩
    obtain ⟨j, hj⟩ : ∃ j, Y'.length = j := ⟨_, rfl⟩
    have HI := Lib.hid hi
    have HJ := Lib.hid hj
    rw [hi] at hx1 hb1 ⊢
    rw [hj] at hy1 hb1 ⊢
    clear hi hj
    rcases Nat.lt_trichotomy i j with hlt | heq | hgt
    · obtain ⟨Y1, Y2, hy, hy2⟩ : ∃ Y1 Y2, Y' = Y1 ++ Y2 ∧ Y2.length = X'.length := ⟨Y'.take (Y'.length - X'.length), Y'.drop (Y'.length - X'.length), by simp, by have := HI.out; have := HJ.out; simp; omega⟩
      have HY := Lib.hid hy
      have HY2 := Lib.hid hy2
      have HY1 : Hid (Y1.length + i = j) := Lib.hid (by have h1 := HJ.out; rw [hy] at h1; simp at h1; have := HI.out; omega)
      have O2 : Hid (OT wr B (.slice (some ⟨g, 0, none⟩) n cap) (P' ++ X' ++ Y1 ++ Y2 ++ Q')) := Lib.hid (by have := O.out; rw [hy] at this; simpa using this)
      have hne : ((i : Int) != (j : Int)) = true := by simp; omega
      have hng : decide ((j : Int) < (i : Int)) = false := by simp; omega
      have SW := fun a b k h1 h2 h3 => swapRange_int g cap n B P' X' Y1 Y2 Q' f a b k wr hy2.symm hn2 O2.out h1 h2 h3
      have HSW := Lib.hid SW
      clear O hy hy2 SW
      go_wp2_with (go_at_call 82; refine (HSW.out _ _ _ (by have := EM.out; have := HI.out; omega) (by have := EM.out; have := HI.out; have := HY1.out; omega) (by have := HI.out; omega)).mono ?_; rintro e w1 ⟨rfl, o1, g1⟩; have O1 := Lib.hid o1; have G1 := Lib.hid (G.out.trans g1); clear o1 g1)
      go_roundw
      case rel => exact ⟨P', Y2, Y1, X' ++ Q', by rw [HY2.out, HI.out], by (have := HY1.out; congr 1; omega), Lib.hid (by have := EM.out; have := HY2.out; omega), Lib.hid ⟨fun e => by have := HY2.out; have := HI.out; rw [e] at *; simp at *; omega, fun e => by have := HY1.out; rw [e] at *; simp at *; omega⟩, Lib.hid (by rw [← EQ.out, HY.out]; simp), Lib.hid (by simpa using O1.out), G1⟩
      case measure => simp [intOf]; omega
    · subst heq
      have hne : ((i : Int) != (i : Int)) = false := by simp
      have O2 : Hid (OT wr B (.slice (some ⟨g, 0, none⟩) n cap) (P' ++ X' ++ [] ++ Y' ++ Q')) := Lib.hid (by simpa using O.out)
      have SW := fun a b k h1 h2 h3 => swapRange_int g cap n B P' X' [] Y' Q' f a b k wr (by rw [HI.out, HJ.out]) hn2 O2.out h1 h2 h3
      have HSW := Lib.hid SW
      clear O SW
      go_wp2_with (go_at_call 82; refine (HSW.out _ _ _ (by have := EM.out; have := HI.out; omega) (by have := EM.out; have := HI.out; simp; omega) (by have := HI.out; omega)).mono ?_; rintro e w1 ⟨rfl, o1, g1⟩; have O1 := Lib.hid o1; have G1 := Lib.hid (G.out.trans g1); clear o1 g1)
      go_end0
      refine ⟨rfl, ?_, G1.out⟩
      rw [← EQ.out]
      simpa using O1.out
    · obtain ⟨X1, X2, hx, hx2⟩ : ∃ X1 X2, X' = X1 ++ X2 ∧ X1.length = Y'.length := ⟨X'.take Y'.length, X'.drop Y'.length, by simp, by have := HI.out; have := HJ.out; simp; omega⟩
      have HX := Lib.hid hx
      have HX2 := Lib.hid hx2
      have HX1 : Hid (X2.length + j = i) := Lib.hid (by have h1 := HI.out; rw [hx] at h1; simp at h1; have := HJ.out; omega)
      have O2 : Hid (OT wr B (.slice (some ⟨g, 0, none⟩) n cap) (P' ++ X1 ++ X2 ++ Y' ++ Q')) := Lib.hid (by have := O.out; rw [hx] at this; simpa using this)
      have hne : ((i : Int) != (j : Int)) = true := by simp; omega
      have hng : decide ((j : Int) < (i : Int)) = true := by simp; omega
      have SW := fun a b k h1 h2 h3 => swapRange_int g cap n B P' X1 X2 Y' Q' f a b k wr hx2 hn2 O2.out h1 h2 h3
      have HSW := Lib.hid SW
      clear O hx hx2 SW
      go_wp2_with (go_at_call 82; refine (HSW.out _ _ _ (by have := EM.out; have := HI.out; omega) (by have := EM.out; have := HI.out; have := HX1.out; have := HX2.out; have := HJ.out; omega) (by have := HX2.out; have := HJ.out; omega)).mono ?_; rintro e w1 ⟨rfl, o1, g1⟩; have O1 := Lib.hid o1; have G1 := Lib.hid (G.out.trans g1); clear o1 g1)
      go_roundw
      case rel => exact ⟨P' ++ Y', X2, X1, Q', by (have := HX1.out; congr 1; omega), by rw [HX2.out, HJ.out], Lib.hid (by have := EM.out; have := HI.out; have := HJ.out; have := HX1.out; simp; omega), Lib.hid ⟨fun e => by have := HX1.out; rw [e] at *; simp at *; omega, fun e => by have := HX2.out; have := HJ.out; rw [e] at *; simp at *; omega⟩, Lib.hid (by rw [← EQ.out, HX.out]; simp), Lib.hid (by simpa using O1.out), G1⟩
      case measure => simp [intOf]; omega
end Go.Proofs.Ytejipflkdigbbaa
