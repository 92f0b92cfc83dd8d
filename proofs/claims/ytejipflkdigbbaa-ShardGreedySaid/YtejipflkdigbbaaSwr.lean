/- Walks: slices.swapRangeCmpFunc and slices.rotateCmpFunc. -/
import Derived.Test.YtejipflkdigbbaaGrw
import Derived.BigRegion
namespace Go.Proofs.Ytejipflkdigbbaa
open Go.RowKit

theorem set_at (U V : List Int) (x y : Int) : (U ++ x :: V).set U.length y = U ++ y :: V := by simp
theorem get_at (U V : List Int) (x : Int) {k : Nat} (hk : k = U.length) : (U ++ x :: V).getD k 0 = x := by subst hk; simp [List.getD_eq_getElem?_getD]
theorem set_at' (U V : List Int) (x y : Int) {k : Nat} (hk : k = U.length) : (U ++ x :: V).set k y = U ++ y :: V := by subst hk; simp
theorem two_get (U V T : List Int) (x y : Int) {k : Nat} (hk : k = U.length + 1 + V.length) : (U ++ x :: (V ++ y :: T)).getD k 0 = y := by
  have : U ++ x :: (V ++ y :: T) = (U ++ x :: V) ++ y :: T := by simp
  rw [this, get_at _ _ _ (by simp; omega)]
theorem two_set (U V T : List Int) (x y : Int) {j k : Nat} (hj : j = U.length) (hk : k = U.length + 1 + V.length) : ((U ++ x :: (V ++ y :: T)).set j y).set k x = U ++ y :: (V ++ x :: T) := by
  rw [set_at' _ _ _ _ hj]
  have : U ++ y :: (V ++ y :: T) = (U ++ y :: V) ++ y :: T := by simp
  rw [this, set_at' _ _ _ _ (by simp; omega)]
  simp
theorem two_set' (U V T : List Int) (x y : Int) {j k : Nat} (hj : j = U.length) (hk : k = U.length + 1 + V.length) : ((U ++ x :: (V ++ y :: T)).set k x).set j y = U ++ y :: (V ++ x :: T) := by
  rw [List.set_comm _ _ (by omega), two_set U V T x y hj hk]

/-- Two cells of a row exchanged. -/
theorem OT.swap {w : World} {B g cap n : Nat} {L : List Int} (h : OT w B (.slice (some ⟨g, 0, none⟩) n cap) L) (hn : L.length = n) (j k : Nat) (x y : Int) :
    OT ((w.setCell ⟨g, j, none⟩ (iv y)).setCell ⟨g, k, none⟩ (iv x)) B (.slice (some ⟨g, 0, none⟩) n cap) ((L.set j y).set k x) ∧ w.grownBy ((w.setCell ⟨g, j, none⟩ (iv y)).setCell ⟨g, k, none⟩ (iv x)) (some g) := by
  obtain ⟨h1, g1⟩ := h.put hn j y
  obtain ⟨h2, g2⟩ := h1.put (by simpa using hn) k x
  exact ⟨h2, g1.trans g2⟩

set_option maxHeartbeats 4000000 in
set_option maxRecDepth 100000 in
theorem swapRange_any (g cap n B : Nat) (P X M Y Q : List Int) (f : Value) (w : World) (hX : X.length = Y.length) (hn : (P ++ X ++ M ++ Y ++ Q).length = n) (hn2 : n ≤ 1000)
    (ho : OT w B (.slice (some ⟨g, 0, none⟩) n cap) (P ++ X ++ M ++ Y ++ Q)) :
    Calls Try.prog 82 #[.slice (some ⟨g, 0, none⟩) n cap, .int .i64 (P.length : Nat), .int .i64 (P.length + X.length + M.length : Nat), .int .i64 (X.length : Nat), f] w fun e w' =>
      e = .returned (.tuple #[]) ∧ OT w' B (.slice (some ⟨g, 0, none⟩) n cap) (P ++ Y ++ M ++ X ++ Q) ∧ w.grownBy w' (some g) := by
  have HO := Lib.hid ho
  have HX := Lib.hid hX
  have hlen : P.length + X.length + M.length + Y.length + Q.length = n := by simpa [Nat.add_assoc] using hn
  clear ho hn hX
  have hq : ∃ q, q = P.length + X.length + M.length := ⟨_, rfl⟩
  obtain ⟨q, hq⟩ := hq
  rw [← hq]
  have hp : ∃ p, p = P.length := ⟨_, rfl⟩
  obtain ⟨p, hp⟩ := hp
  rw [← hp]
  have hm : ∃ m, m = X.length := ⟨_, rfl⟩
  obtain ⟨m, hm⟩ := hm
  rw [← hm]
  have HP := Lib.hid hp
  have HQ := Lib.hid hq
  have HM := Lib.hid hm
  have hqm : q + m ≤ n := by have := HX.out; omega
  have hpq : p + m ≤ q := by omega
  clear hlen hp hq hm
  go_enter Try.func82, Try.ntmps82
  go_wp2
  go_loopw [10] (fun i wr => ∃ X1 X2 Y1 Y2 : List Int, i = .int .i64 (X1.length : Nat) ∧ Hid (X = X1 ++ X2) ∧ Hid (Y = Y1 ++ Y2) ∧ Hid (X1.length = Y1.length) ∧ Hid (OT wr B (.slice (some ⟨g, 0, none⟩) n cap) (P ++ Y1 ++ X2 ++ M ++ X1 ++ Y2 ++ Q)) ∧ Hid (w.grownBy wr (some g))) (fun i _ => m - (intOf i).toNat)
  case atStart => exact ⟨[], X, [], Y, rfl, Lib.hid rfl, Lib.hid rfl, Lib.hid rfl, by simpa using HO, Lib.hid (World.grownBy.refl _ _)⟩
  case round =>
    obtain ⟨X1, X2, Y1, Y2, rfl, E1, E2, E3, O, G⟩ := hrel
    have hl1 : X1.length ≤ m := by have := HM.out; rw [E1.out] at this; simp at this; omega
    by_cases hlt : X1.length < m
    · obtain ⟨x, X3, rfl⟩ : ∃ x X3, X2 = x :: X3 := by
        cases X2 with
        | nil => have := HM.out; rw [E1.out] at this; simp at this; omega
        | cons x X3 => exact ⟨x, X3, rfl⟩
      obtain ⟨y, Y3, rfl⟩ : ∃ y Y3, Y2 = y :: Y3 := by
        cases Y2 with
        | nil => have := HM.out; have := HX.out; rw [E1.out, E2.out] at this; have := E3.out; simp at *; omega
        | cons y Y3 => exact ⟨y, Y3, rfl⟩
      have hL : Hid (P ++ Y1 ++ x :: X3 ++ M ++ X1 ++ y :: Y3 ++ Q = (P ++ Y1) ++ x :: ((X3 ++ M ++ X1) ++ y :: (Y3 ++ Q))) := Lib.hid (by simp)
      have o := O.out
      rw [hL.out] at o
      have hlen : ((P ++ Y1) ++ x :: ((X3 ++ M ++ X1) ++ y :: (Y3 ++ Q))).length = n := by
        obtain ⟨A', c', e', -⟩ := o.form
        cases e'
        rfl
      have hj : p + X1.length = (P ++ Y1).length := by have := HP.out; have := E3.out; simp; omega
      have hk : q + X1.length = (P ++ Y1).length + 1 + (X3 ++ M ++ X1).length := by
        have h1 := HP.out; have h2 := E3.out; have h3 := HQ.out; have h4 := HM.out; rw [E1.out] at h3 h4; simp at h3 h4 ⊢; omega
      obtain ⟨s1, s2⟩ := o.swap hlen (p + X1.length) (q + X1.length) x y
      obtain ⟨c1, f1⟩ := o.at' hlen (j := p + X1.length) (by omega)
      obtain ⟨c2, f2⟩ := o.at' hlen (j := q + X1.length) (by omega)
      rw [get_at _ _ _ hj] at c1
      rw [two_get _ _ _ _ _ hk] at c2
      rw [two_set _ _ _ _ _ hj hk] at s1
      have S1 : Hid (OT ((wr.setCell ⟨g, p + X1.length, none⟩ (.int .i64 y)).setCell ⟨g, q + X1.length, none⟩ (.int .i64 x)) B (.slice (some ⟨g, 0, none⟩) n cap) (P ++ (Y1 ++ [y]) ++ X3 ++ M ++ (X1 ++ [x]) ++ Y3 ++ Q)) := Lib.hid (by simpa [iv] using s1)
      have S2 : Hid (w.grownBy ((wr.setCell ⟨g, p + X1.length, none⟩ (.int .i64 y)).setCell ⟨g, q + X1.length, none⟩ (.int .i64 x)).drew (some g)) := Lib.hid ((G.out.trans s2).trans (grown_drewN _ 1 _))
      have F1 : Hid (X = (X1 ++ [x]) ++ X3) := Lib.hid (by rw [E1.out]; simp)
      have F2 : Hid (Y = (Y1 ++ [y]) ++ Y3) := Lib.hid (by rw [E2.out]; simp)
      have F3 : Hid ((X1 ++ [x]).length = (Y1 ++ [y]).length) := Lib.hid (by have := E3.out; simp; omega)
      have F4 : Hid ((X1 ++ [x]).length = X1.length + 1) := Lib.hid (by simp)
      have hne : p + X1.length ≠ q + X1.length := by omega
      have t1 : IntKind.i64.wrap ((p : Int) + (X1.length : Int)) = ((p + X1.length : Nat) : Int) := by rw [IntWalk.i64_in _ (by omega)]; simp
      have t2 : IntKind.i64.wrap ((q : Int) + (X1.length : Int)) = ((q + X1.length : Nat) : Int) := by rw [IntWalk.i64_in _ (by omega)]; simp
      clear s1 s2 o hlen hj hk hL O
      generalize hi : X1.length = i at *
      generalize hpi : p + i = pi at *
      generalize hqi : q + i = qi at *
      go_wp2
      go_region
      go_wp2
      go_roundw
      case rel => exact ⟨X1 ++ [x], X3, Y1 ++ [y], Y3, by rw [F4.out]; go_num, F1, F2, F3, S1, S2⟩
      case measure => simp [intOf]; omega
    · have h1 := HM.out
      rw [E1.out] at h1
      obtain rfl : X2 = [] := by simp at h1; exact List.eq_nil_of_length_eq_zero (by omega)
      obtain rfl : Y2 = [] := by
        have h2 := HX.out
        rw [E1.out, E2.out] at h2
        have := E3.out
        simp at h2
        exact List.eq_nil_of_length_eq_zero (by omega)
      have e1 := E1.out
      have e2 := E2.out
      simp at e1 e2
      subst e1 e2
      go_wp2
      go_end0
      exact ⟨rfl, by simpa using O.out, G.out⟩
end Go.Proofs.Ytejipflkdigbbaa
