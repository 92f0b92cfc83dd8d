/- Walk: slices.symMergeCmpFunc where the second run has one element. -/
import Derived.Test.YtejipflkdigbbaaSy1
namespace Go.Proofs.Ytejipflkdigbbaa
open Go.RowKit

set_option maxHeartbeats 4000000 in
set_option maxRecDepth 100000 in
theorem sym_last (C : List Int) (D g cap n B : Nat) (P X Q : List Int) (y : Int) (a m b : Int) (w : World) (hn2 : n ≤ 1000) (hX0 : 2 ≤ X.length) (hC : C.length = n) (hc : Cmp C D g w)
    (ho : OT w B (.slice (some ⟨g, 0, none⟩) n cap) (P ++ X ++ [y] ++ Q)) (hr : ∀ z ∈ X ++ [y], 0 ≤ z ∧ z < C.length) (hX : X.Pairwise (lexP C)) (hxy : ∀ x ∈ X, x < y) (ha : a = P.length) (hm : m = P.length + X.length) (hb : b = P.length + X.length + 1) :
    Calls Try.prog 54 #[.slice (some ⟨g, 0, none⟩) n cap, .int .i64 a, .int .i64 m, .int .i64 b, .func (.func 32) #[] #[.pointer (some ⟨D, 0, none⟩)]] w (SymPost C g cap n B P X [y] Q w) := by
  have hlen : P.length + X.length + 1 + Q.length = n := by have := ot_len ho; simp at this; omega
  obtain ⟨p, hp⟩ : ∃ p, P.length = p := ⟨_, rfl⟩
  obtain ⟨l, hl⟩ : ∃ l, X.length = l := ⟨_, rfl⟩
  obtain ⟨M, hM⟩ : ∃ M, p + l = M := ⟨_, rfl⟩
  have HP := Lib.hid hp
  have HL := Lib.hid hl
  have HM := Lib.hid hM
  rw [hp, hl] at hlen
  obtain rfl : a = (p : Int) := by omega
  obtain rfl : m = (M : Int) := by omega
  obtain rfl : b = (M : Int) + 1 := by omega
  have HO := Lib.hid ho
  have HC := Lib.hid hc
  have HR := Lib.hid hr
  have HX := Lib.hid hX
  have HXY := Lib.hid hxy
  have hpM : p + 2 ≤ M := by omega
  have hMn : M + 1 ≤ n := by omega
  have e1 : ((M : Int) - (p : Int) == 1) = false := by simp; omega
  have e2 : ((M : Int) + 1 - (M : Int) == 1) = true := by simp; omega
  clear ho hc hr hX hxy hp hl hX0 hlen ha hm hb hC hM
  go_enter Try.func54, Try.ntmps54
  go_wp2
  go_loopw [14, 15, 16] (fun i j _ wr => ∃ u v I J : Nat, u ≤ v ∧ i = .int .i64 (I : Nat) ∧ j = .int .i64 (J : Nat) ∧ Hid (v ≤ l) ∧ Hid (I = p + u) ∧ Hid (J = p + v) ∧ Hid (∀ h : 0 < u, cst C y ≤ cst C (X.getD (u - 1) 0)) ∧ Hid (v < l → cst C (X.getD v 0) < cst C y) ∧ Hid (∃ k, wr = w.drewN k)) (fun i j _ _ => (intOf j).toNat - (intOf i).toNat)
  case atStart => exact ⟨0, l, p, M, Nat.zero_le _, by go_num, by go_num, Lib.hid (Nat.le_refl _), Lib.hid rfl, Lib.hid HM.out.symm, Lib.hid (fun h => by omega), Lib.hid (fun h => by omega), Lib.hid ⟨0, rfl⟩⟩
  case round =>
    obtain ⟨u, v, I, J, huv, rfl, rfl, hv, EI, EJ, H1, H2, HW⟩ := hrel
    have OW : Hid (OT wr B (.slice (some ⟨g, 0, none⟩) n cap) (P ++ X ++ [y] ++ Q)) := Lib.hid (by obtain ⟨k, rfl⟩ := HW.out; exact HO.out)
    have GW : Hid (w.grownBy wr (some g)) := Lib.hid (by obtain ⟨k, rfl⟩ := HW.out; exact grown_drewN w k _)
    by_cases hlt : u < v
    · obtain ⟨h, hh⟩ : ∃ h : Nat, ((I : Int) + (J : Int)) / 2 = h := ⟨(((I : Int) + (J : Int)) / 2).toNat, by omega⟩
      obtain ⟨q, hq⟩ : ∃ q : Nat, h = p + q := ⟨h - p, by have := EI.out; have := EJ.out; omega⟩
      have hq1 : u ≤ q ∧ q < v := by have := EI.out; have := EJ.out; omega
      have hbd : I < J ∧ J ≤ 1000 ∧ h < J ∧ h < n := by have := EI.out; have := EJ.out; have := hv.out; have := HM.out; omega
      have HQ := Lib.hid hq
      clear hq
      have hyl : q < X.length := by have := HL.out; have := hv.out; omega
      have hgy : (P ++ X ++ [y] ++ Q).getD h 0 = X.getD q 0 := by
        have e : P ++ X ++ [y] ++ Q = P ++ (X ++ ([y] ++ Q)) := by simp
        rw [e, getD_right _ _ (by have := HP.out; have := HQ.out; omega)]
        have e2 : h - P.length = q := by have := HP.out; have := HQ.out; omega
        rw [e2, getD_left _ _ hyl]
      have hgx : (P ++ X ++ [y] ++ Q).getD M 0 = y := by
        have e : P ++ X ++ [y] ++ Q = (P ++ X) ++ y :: Q := by simp
        rw [e, get_at _ _ _ (by have := HP.out; have := HL.out; have := HM.out; simp; omega)]
      obtain ⟨c1, -⟩ := OW.out.at' (ot_len OW.out) (j := h) (by omega)
      obtain ⟨c2, -⟩ := OW.out.at' (ot_len OW.out) (j := M) (by omega)
      rw [hgy] at c1
      rw [hgx] at c2
      have hym : X.getD q 0 ∈ X := by simp [List.getD_eq_getElem?_getD, hyl]
      have r1 := HR.out _ (show X.getD q 0 ∈ X ++ [y] by simp only [List.mem_append]; exact .inl hym)
      have r2 := HR.out y (by simp)
      have CM := fun k => (HC.out.on GW.out) (wr.drewN k) (grown_drewN wr k _) y (X.getD q 0) r2.1 r2.2 r1.1 r1.2
      have HCM := Lib.hid CM
      have hcl := cmp_lt (cst C (X.getD q 0)) (cst C y)
      have tI : (I : Int) < (J : Int) := by omega
      have th1 : (h : Int) < (n : Int) := by omega
      have th2 : (M : Int) < (n : Int) := by omega
      have NX1 : Hid (¬ cst C (X.getD q 0) < cst C y → ∀ h : 0 < q + 1, cst C y ≤ cst C (X.getD (q + 1 - 1) 0)) := Lib.hid (fun h _ => by simp only [Nat.add_sub_cancel]; omega)
      have NX2 : Hid (cst C (X.getD q 0) < cst C y → q < l → cst C (X.getD q 0) < cst C y) := Lib.hid (fun h _ => h)
      clear hgy hgx hym r1 r2 CM
      generalize Lib.compareInt (cst C (X.getD q 0)) (cst C y) = cv at *
      obtain ⟨cy, hcy⟩ : ∃ cy, cst C (X.getD q 0) = cy := ⟨_, rfl⟩
      rw [hcy] at hcl
      have HCY := Lib.hid hcy
      clear hcy
      obtain ⟨x, hyq⟩ : ∃ x, X.getD q 0 = x := ⟨_, rfl⟩
      rw [hyq] at c1 HCM
      clear hyq
      by_cases hgo : cy < cst C y
      · have hcv : cv < 0 := by simpa [hgo] using hcl
        clear hcl
        go_wp2
        go_quiet ((go_at_call 32; exact Calls.quiet_of (HCM.out _)))
        go_wp2
        go_roundw
        case rel => exact ⟨u, q, I, h, by omega, rfl, by go_num, Lib.hid (by have := hv.out; omega), EI, Lib.hid (by have := HQ.out; omega), H1, Lib.hid (NX2.out (by rw [HCY.out]; exact hgo)), Lib.hid (by obtain ⟨k, rfl⟩ := HW.out; exact ⟨_, World.drewN_drewN _ _ _⟩)⟩
        case measure => simp [intOf]; omega
      · have hcv : decide (cv < 0) = false := by rw [hcl]; simpa using hgo
        clear hcl
        go_wp2
        go_quiet ((go_at_call 32; exact Calls.quiet_of (HCM.out _)))
        go_wp2
        go_roundw
        case rel => exact ⟨q + 1, v, h + 1, J, by omega, by go_num, rfl, hv, Lib.hid (by have := HQ.out; omega), EJ, Lib.hid (NX1.out (by rw [HCY.out]; exact hgo)), H2, Lib.hid (by obtain ⟨k, rfl⟩ := HW.out; exact ⟨_, World.drewN_drewN _ _ _⟩)⟩
        case measure => simp [intOf]; omega
    · obtain rfl : u = v := by omega
      obtain ⟨X1, X2, hy, hy1⟩ : ∃ X1 X2, X = X1 ++ X2 ∧ X1.length = u := ⟨X.take u, X.drop u, by simp, by have := HL.out; have := hv.out; simp; omega⟩
      have HX1 := Lib.hid hy1
      have HXX := Lib.hid hy
      have MR : Hid (Mrg C X [y] (X1 ++ y :: X2)) := Lib.hid (by
        have h1 := HX.out
        have h2 := HXY.out
        have h3 := H1.out
        have h4 := H2.out
        have h5 := HL.out
        rw [hy] at h1 h2 h3 h4 h5 ⊢
        refine Mrg.last h1 h2 (fun y e => ?_) (fun y e => ?_)
        · obtain ⟨k1, k2⟩ := last_getD e X2
          rw [hy1] at k1 k2
          have := h3 k1
          rw [k2] at this
          omega
        · obtain ⟨k1, k2⟩ := head_getD e X1
          rw [hy1] at k2
          have := h4 (by simp at h5; omega)
          rwa [k2] at this)
      have OW2 : Hid (OT wr B (.slice (some ⟨g, 0, none⟩) n cap) (P ++ X1 ++ X2 ++ y :: ([] ++ Q))) := Lib.hid (by have := OW.out; rw [hy] at this; simpa using this)
      have hbd : I ≤ 1000 ∧ I ≤ M ∧ I = J := by have := EI.out; have := EJ.out; have := hv.out; have := HM.out; omega
      obtain ⟨-, -, rfl⟩ := hbd
      have hbd : I ≤ 1000 ∧ I ≤ M := by have := EI.out; have := hv.out; have := HM.out; omega
      clear hy hy1 OW H1 H2
      go_wp2
      go_loopw [17] (fun k wr => ∃ (U V : List Int) (K : Nat), k = .int .i64 (K : Nat) ∧ K ≤ M ∧ I ≤ K ∧ Hid (K = I + U.length) ∧ Hid (X2 = U ++ V) ∧ Hid (OT wr B (.slice (some ⟨g, 0, none⟩) n cap) (P ++ X1 ++ U ++ y :: (V ++ Q))) ∧ Hid (w.grownBy wr (some g))) (fun k _ => (intOf k).toNat)
      case atStart => exact ⟨X2, [], M, by go_num, Nat.le_refl _, by omega, Lib.hid (by have h1 := HL.out; rw [HXX.out] at h1; have := HX1.out; have := EI.out; have := HM.out; simp at h1; omega), Lib.hid (by simp), OW2, GW⟩
      case round =>
        obtain ⟨U, V, K, rfl, hKM, hIK, EK, EV, OS, GS'⟩ := hrel
        by_cases hgo : I < K
        · obtain ⟨U2, x, rfl⟩ : ∃ U2 x, U = U2 ++ [x] := by
            rcases List.eq_nil_or_concat U with rfl | ⟨U2, x, rfl⟩
            · exfalso; have h1 := EK.out; simp at h1; omega
            · exact ⟨U2, x, by simp⟩
          obtain ⟨K1, hK1⟩ : ∃ K1, K1 + 1 = K := ⟨K - 1, by omega⟩
          have o : OT wr B (.slice (some ⟨g, 0, none⟩) n cap) ((P ++ X1 ++ U2) ++ x :: ([] ++ y :: (V ++ Q))) := by simpa using OS.out
          have hj : K1 = (P ++ X1 ++ U2).length := by have h1 := EK.out; have := HP.out; have := EI.out; have := HX1.out; simp at h1 ⊢; omega
          have hk : K = (P ++ X1 ++ U2).length + 1 + ([] : List Int).length := by simp only [List.length_nil]; omega
          obtain ⟨s1, s2⟩ := o.swap (ot_len o) K K1 y x
          have hKn : K < n := by omega
          obtain ⟨c1, f1⟩ := o.at' (ot_len o) (j := K1) (by omega)
          obtain ⟨c2, f2⟩ := o.at' (ot_len o) (j := K) (by omega)
          rw [get_at _ _ _ hj] at c1
          rw [two_get _ _ _ _ _ hk] at c2
          rw [two_set' _ _ _ _ _ hj hk] at s1
          have S1 : Hid (OT ((wr.setCell ⟨g, K, none⟩ (.int .i64 x)).setCell ⟨g, K1, none⟩ (.int .i64 y)) B (.slice (some ⟨g, 0, none⟩) n cap) (P ++ X1 ++ U2 ++ y :: ((x :: V) ++ Q))) := Lib.hid (by simpa [iv] using s1)
          have S2 : Hid (w.grownBy ((wr.setCell ⟨g, K, none⟩ (.int .i64 x)).setCell ⟨g, K1, none⟩ (.int .i64 y)).drew (some g)) := Lib.hid ((GS'.out.trans s2).trans (grown_drewN _ 1 _))
          have F1 : Hid (X2 = U2 ++ (x :: V)) := Lib.hid (by rw [EV.out]; simp)
          have tt1 : (I : Int) < (K : Int) := by omega
          have tt3 : ((K : Int) - 1) = (K1 : Int) := by omega
          have tk : K ≤ 1000 := by omega
          have HK1 := Lib.hid hK1
          have tt2 : (K1 : Int) < (n : Int) := by omega
          have tt4 : (0 : Int) ≤ (K1 : Int) := by omega
          have tt5 : (K : Int) < (n : Int) := by omega
          have tne : K1 ≠ K := by omega
          have tne2 : K ≠ K1 := by omega
          clear s1 s2 o hj hk OS hK1 hKn
          go_wp2
          go_region
          go_wp2
          go_roundw
          case rel => exact ⟨U2, x :: V, K1, by first | rfl | go_num | (rw [tt3]), by have := HK1.out; omega, by have := HK1.out; omega, Lib.hid (by have h1 := EK.out; have := HK1.out; simp at h1; omega), F1, S1, S2⟩
          case measure => have := HK1.out; simp [intOf]; omega
        · obtain rfl : U = [] := by
            cases U with
            | nil => rfl
            | cons y V2 => exfalso; have h1 := EK.out; simp at h1; omega
          have FN : Hid (SymPost C g cap n B P X [y] Q w (.returned (.tuple #[])) wr) := Lib.hid ⟨rfl, _, MR.out, by have := OS.out; rw [EV.out]; simpa using this, GS'.out⟩
          have tt1 : ¬ (I : Int) < (K : Int) := by omega
          go_wp2
          go_end0
          exact FN.out
end Go.Proofs.Ytejipflkdigbbaa
