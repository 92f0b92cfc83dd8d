/- Walk: slices.symMergeCmpFunc where one run has one element. -/
import Derived.Test.YtejipflkdigbbaaRot
import Derived.Test.YtejipflkdigbbaaSym
import Derived.BigQuiet
namespace Go.Proofs.Ytejipflkdigbbaa
open Go.RowKit

theorem getD_right (U V : List Int) {k : Nat} (h : U.length ≤ k) : (U ++ V).getD k 0 = V.getD (k - U.length) 0 := by simp [List.getD_eq_getElem?_getD, List.getElem?_append_right h]
theorem getD_left (U V : List Int) {k : Nat} (h : k < U.length) : (U ++ V).getD k 0 = U.getD k 0 := by simp [List.getD_eq_getElem?_getD, List.getElem?_append_left h]
theorem last_getD {U : List Int} {y : Int} (h : U.getLast? = some y) (V : List Int) : 0 < U.length ∧ (U ++ V).getD (U.length - 1) 0 = y := by
  rw [List.getLast?_eq_getElem?] at h
  have hl : U.length - 1 < U.length := by
    have := (List.getElem?_eq_some_iff.1 h).1
    omega
  rw [getD_left _ _ hl]
  exact ⟨by omega, by simp [List.getD_eq_getElem?_getD, h]⟩
theorem head_getD {V : List Int} {y : Int} (h : V.head? = some y) (U : List Int) : 0 < V.length ∧ (U ++ V).getD U.length 0 = y := by
  cases V with
  | nil => simp at h
  | cons z V => simp at h; subst h; exact ⟨by simp, get_at _ _ _ rfl⟩
/-- The comparison of Greedy answers in every world that differs in the row of the indices alone. -/
def Cmp (C : List Int) (D g : Nat) (w : World) : Prop := ∀ w', w.grownBy w' (some g) → ∀ x y : Int, 0 ≤ x → x < C.length → 0 ≤ y → y < C.length →
  Calls Try.prog 32 #[.int .i64 x, .int .i64 y, .pointer (some ⟨D, 0, none⟩)] w' fun e w'' => e = .returned (.int .i64 (Lib.compareInt (cst C y) (cst C x))) ∧ ∃ q, w'' = w'.drewN q
theorem Cmp.on {C : List Int} {D g : Nat} {w w' : World} (h : Cmp C D g w) (hg : w.grownBy w' (some g)) : Cmp C D g w' := fun w'' h2 => h w'' (hg.trans h2)
/-- What symMerge does to the row. -/
def SymPost (C : List Int) (g cap n B : Nat) (P X Y Q : List Int) (w : World) (e : Ending) (w' : World) : Prop :=
  e = .returned (.tuple #[]) ∧ ∃ Z, Mrg C X Y Z ∧ OT w' B (.slice (some ⟨g, 0, none⟩) n cap) (P ++ Z ++ Q) ∧ w.grownBy w' (some g)
theorem cmp_lt (a b : Int) : decide (Lib.compareInt a b < 0) = decide (a < b) := by
  unfold Lib.compareInt
  by_cases h1 : a < b
  · simp [h1]
  · by_cases h2 : b < a <;> simp [h1, h2]

set_option maxHeartbeats 4000000 in
set_option maxRecDepth 100000 in
theorem sym_one (C : List Int) (D g cap n B : Nat) (P Y Q : List Int) (x : Int) (a m b : Int) (w : World) (hn2 : n ≤ 1000) (hY0 : Y ≠ []) (hC : C.length = n) (hc : Cmp C D g w)
    (ho : OT w B (.slice (some ⟨g, 0, none⟩) n cap) (P ++ [x] ++ Y ++ Q)) (hr : ∀ z ∈ [x] ++ Y, 0 ≤ z ∧ z < C.length) (hY : Y.Pairwise (lexP C)) (hxy : ∀ y ∈ Y, x < y) (ha : a = P.length) (hm : m = P.length + 1) (hb : b = P.length + 1 + Y.length) :
    Calls Try.prog 54 #[.slice (some ⟨g, 0, none⟩) n cap, .int .i64 a, .int .i64 m, .int .i64 b, .func (.func 32) #[] #[.pointer (some ⟨D, 0, none⟩)]] w (SymPost C g cap n B P [x] Y Q w) := by
  have hlen : P.length + 1 + Y.length + Q.length = n := by have := ot_len ho; simp at this; omega
  obtain ⟨p, hp⟩ : ∃ p, P.length = p := ⟨_, rfl⟩
  obtain ⟨l, hl⟩ : ∃ l, Y.length = l := ⟨_, rfl⟩
  have HP := Lib.hid hp
  have HL := Lib.hid hl
  rw [hp, hl] at hlen
  obtain rfl : a = (p : Int) := by omega
  obtain rfl : m = (p : Int) + 1 := by omega
  obtain rfl : b = (p : Int) + 1 + l := by omega
  have HO := Lib.hid ho
  have HC := Lib.hid hc
  have HR := Lib.hid hr
  have HY := Lib.hid hY
  have HXY := Lib.hid hxy
  have hl0 : 0 < l := by rw [← hl]; exact List.length_pos_iff.2 hY0
  have hpl : p + 1 + l ≤ n := by omega
  clear ho hc hr hY hxy hp hl hY0 hlen ha hm hb hC
  have e1 : ((p : Int) + 1 - p == 1) = true := by simp; omega
  go_enter Try.func54, Try.ntmps54
  go_wp2
  go_loopw [10, 11, 12] (fun i j _ wr => ∃ u v I J : Nat, u ≤ v ∧ v ≤ l ∧ i = .int .i64 (I : Nat) ∧ j = .int .i64 (J : Nat) ∧ Hid (I = p + 1 + u) ∧ Hid (J = p + 1 + v) ∧ Hid (∀ h : 0 < u, cst C x < cst C (Y.getD (u - 1) 0)) ∧ Hid (v < l → cst C (Y.getD v 0) ≤ cst C x) ∧ Hid (∃ k, wr = w.drewN k)) (fun i j _ _ => (intOf j).toNat - (intOf i).toNat)
  case atStart => exact ⟨0, l, p + 1, p + 1 + l, Nat.zero_le _, Nat.le_refl _, by go_num, by go_num, Lib.hid rfl, Lib.hid rfl, Lib.hid (fun h => by omega), Lib.hid (fun h => by omega), Lib.hid ⟨0, rfl⟩⟩
  case round =>
    obtain ⟨u, v, I, J, huv, hv, rfl, rfl, EI, EJ, H1, H2, HW⟩ := hrel
    have OW : Hid (OT wr B (.slice (some ⟨g, 0, none⟩) n cap) (P ++ [x] ++ Y ++ Q)) := Lib.hid (by obtain ⟨k, rfl⟩ := HW.out; exact HO.out)
    have GW : Hid (w.grownBy wr (some g)) := Lib.hid (by obtain ⟨k, rfl⟩ := HW.out; exact grown_drewN w k _)
    by_cases hlt : u < v
    · obtain ⟨h, hh⟩ : ∃ h : Nat, ((I : Int) + (J : Int)) / 2 = h := ⟨(((I : Int) + (J : Int)) / 2).toNat, by omega⟩
      obtain ⟨q, hq⟩ : ∃ q : Nat, h = p + 1 + q := ⟨h - (p + 1), by have := EI.out; have := EJ.out; omega⟩
      have hq1 : u ≤ q ∧ q < v := by have := EI.out; have := EJ.out; omega
      have hbd : I < J ∧ J ≤ 1000 ∧ h < J ∧ h < n := by have := EI.out; have := EJ.out; omega
      have HQ := Lib.hid hq
      clear hq
      have hyl : q < Y.length := by have := HL.out; omega
      have hgy : (P ++ [x] ++ Y ++ Q).getD h 0 = Y.getD q 0 := by
        have e : P ++ [x] ++ Y ++ Q = (P ++ [x]) ++ (Y ++ Q) := by simp
        rw [e, getD_right _ _ (by have := HP.out; have := HQ.out; simp; omega)]
        have e2 : h - (P ++ [x]).length = q := by have := HP.out; have := HQ.out; simp; omega
        rw [e2, getD_left _ _ hyl]
      have hgx : (P ++ [x] ++ Y ++ Q).getD p 0 = x := by
        have e : P ++ [x] ++ Y ++ Q = P ++ x :: (Y ++ Q) := by simp
        rw [e, get_at _ _ _ HP.out.symm]
      obtain ⟨c1, -⟩ := OW.out.at' (ot_len OW.out) (j := h) (by omega)
      obtain ⟨c2, -⟩ := OW.out.at' (ot_len OW.out) (j := p) (by omega)
      rw [hgy] at c1
      rw [hgx] at c2
      have hym : Y.getD q 0 ∈ Y := by simp [List.getD_eq_getElem?_getD, hyl]
      have r1 := HR.out _ (show Y.getD q 0 ∈ [x] ++ Y by simp only [List.mem_append]; exact .inr hym)
      have r2 := HR.out x (by simp)
      have CM := fun k => (HC.out.on GW.out) (wr.drewN k) (grown_drewN wr k _) (Y.getD q 0) x r1.1 r1.2 r2.1 r2.2
      have HCM := Lib.hid CM
      have hcl := cmp_lt (cst C x) (cst C (Y.getD q 0))
      have KEY : Hid (Y.getD q 0 = Y.getD q 0) := Lib.hid rfl
      have tI : (I : Int) < (J : Int) := by omega
      have th1 : (h : Int) < (n : Int) := by omega
      have th2 : (p : Int) < (n : Int) := by omega
      have KY := Lib.hid hgy
      have NX1 : Hid (cst C x < cst C (Y.getD q 0) → ∀ h : 0 < q + 1, cst C x < cst C (Y.getD (q + 1 - 1) 0)) := Lib.hid (fun h _ => h)
      have NX2 : Hid (¬ cst C x < cst C (Y.getD q 0) → q < l → cst C (Y.getD q 0) ≤ cst C x) := Lib.hid (fun h _ => by omega)
      clear hgy hgx hym r1 r2 CM KY
      generalize Lib.compareInt (cst C x) (cst C (Y.getD q 0)) = cv at *
      obtain ⟨cy, hcy⟩ : ∃ cy, cst C (Y.getD q 0) = cy := ⟨_, rfl⟩
      rw [hcy] at hcl
      have HCY := Lib.hid hcy
      clear hcy KEY
      obtain ⟨y, hyq⟩ : ∃ y, Y.getD q 0 = y := ⟨_, rfl⟩
      rw [hyq] at c1 HCM
      clear hyq
      by_cases hgo : cst C x < cy
      · have hcv : cv < 0 := by simpa [hgo] using hcl
        clear hcl
        go_wp2
        go_quiet ((go_at_call 32; exact Calls.quiet_of (HCM.out _)))
        go_wp2
        go_roundw
        case rel => exact ⟨q + 1, v, h + 1, J, by omega, by omega, by go_num, rfl, Lib.hid (by have := HQ.out; omega), EJ, Lib.hid (NX1.out (by rw [HCY.out]; exact hgo)), H2, Lib.hid (by obtain ⟨k, rfl⟩ := HW.out; exact ⟨_, World.drewN_drewN _ _ _⟩)⟩
        case measure => simp [intOf]; omega
      · have hcv : ¬ cv < 0 := by simpa [hgo] using hcl
        clear hcl
        go_wp2
        go_quiet ((go_at_call 32; exact Calls.quiet_of (HCM.out _)))
        go_wp2
        go_roundw
        case rel => exact ⟨u, q, I, h, by omega, by omega, rfl, by go_num, EI, Lib.hid (by have := HQ.out; omega), H1, Lib.hid (NX2.out (by rw [HCY.out]; exact hgo)), Lib.hid (by obtain ⟨k, rfl⟩ := HW.out; exact ⟨_, World.drewN_drewN _ _ _⟩)⟩
        case measure => simp [intOf]; omega
    · obtain rfl : u = v := by omega
      obtain ⟨Y1, Y2, hy, hy1⟩ : ∃ Y1 Y2, Y = Y1 ++ Y2 ∧ Y1.length = u := ⟨Y.take u, Y.drop u, by simp, by have := HL.out; simp; omega⟩
      have HY1 := Lib.hid hy1
      have HYY := Lib.hid hy
      have MR : Hid (Mrg C [x] Y (Y1 ++ x :: Y2)) := Lib.hid (by
        have h1 := HY.out
        have h2 := HXY.out
        have h3 := H1.out
        have h4 := H2.out
        have h5 := HL.out
        rw [hy] at h1 h2 h3 h4 h5 ⊢
        refine Mrg.one h1 h2 (fun y e => ?_) (fun y e => ?_)
        · obtain ⟨k1, k2⟩ := last_getD e Y2
          rw [hy1] at k1 k2
          have := h3 k1
          rwa [k2] at this
        · obtain ⟨k1, k2⟩ := head_getD e Y1
          rw [hy1] at k2
          have := h4 (by simp at h5; omega)
          rw [k2] at this
          omega)
      have OW2 : Hid (OT wr B (.slice (some ⟨g, 0, none⟩) n cap) (P ++ [] ++ x :: (Y1 ++ (Y2 ++ Q)))) := Lib.hid (by have := OW.out; rw [hy] at this; simpa using this)
      have hbd : I ≤ 1000 ∧ 1 ≤ I ∧ I = J := by have := EI.out; have := EJ.out; omega
      obtain ⟨-, -, rfl⟩ := hbd
      have hbd : I ≤ 1000 ∧ 1 ≤ I := by have := EI.out; omega
      clear hy hy1 OW H1 H2
      go_wp2
      go_loopw [13] (fun k wr => ∃ (U V : List Int) (K : Nat), k = .int .i64 (K : Nat) ∧ Hid (K = p + U.length) ∧ Hid (Y1 = U ++ V) ∧ Hid (OT wr B (.slice (some ⟨g, 0, none⟩) n cap) (P ++ U ++ x :: (V ++ (Y2 ++ Q)))) ∧ Hid (w.grownBy wr (some g))) (fun k _ => I - (intOf k).toNat)
      case atStart => exact ⟨[], Y1, p, by go_num, Lib.hid rfl, Lib.hid rfl, OW2, GW⟩
      case round =>
        obtain ⟨U, V, K, rfl, EK, EV, OS, GS'⟩ := hrel
        have hvl : Hid (U.length + V.length = u) := Lib.hid (by have := HY1.out; rw [EV.out] at this; simpa using this)
        by_cases hgo : K + 1 < I
        · obtain ⟨y, V2, rfl⟩ : ∃ y V2, V = y :: V2 := by
            cases V with
            | nil => exfalso; have h1 := hvl.out; have := EI.out; have := EK.out; simp at h1; omega
            | cons y V2 => exact ⟨y, V2, rfl⟩
          have o : OT wr B (.slice (some ⟨g, 0, none⟩) n cap) ((P ++ U) ++ x :: ([] ++ y :: (V2 ++ (Y2 ++ Q)))) := by simpa using OS.out
          have hj : K = (P ++ U).length := by have := EK.out; have := HP.out; simp; omega
          have hk : K + 1 = (P ++ U).length + 1 + ([] : List Int).length := by simp only [List.length_nil]; omega
          obtain ⟨s1, s2⟩ := o.swap (ot_len o) K (K + 1) x y
          have hKn : K + 1 < n := by have := EI.out; omega
          obtain ⟨c1, f1⟩ := o.at' (ot_len o) (j := K) (by omega)
          obtain ⟨c2, f2⟩ := o.at' (ot_len o) (j := K + 1) (by omega)
          rw [get_at _ _ _ hj] at c1
          rw [two_get _ _ _ _ _ hk] at c2
          rw [two_set _ _ _ _ _ hj hk] at s1
          have S1 : Hid (OT ((wr.setCell ⟨g, K, none⟩ (.int .i64 y)).setCell ⟨g, K + 1, none⟩ (.int .i64 x)) B (.slice (some ⟨g, 0, none⟩) n cap) (P ++ (U ++ [y]) ++ x :: (V2 ++ (Y2 ++ Q)))) := Lib.hid (by simpa [iv] using s1)
          have S2 : Hid (w.grownBy ((wr.setCell ⟨g, K, none⟩ (.int .i64 y)).setCell ⟨g, K + 1, none⟩ (.int .i64 x)).drew (some g)) := Lib.hid ((GS'.out.trans s2).trans (grown_drewN _ 1 _))
          have F1 : Hid (Y1 = (U ++ [y]) ++ V2) := Lib.hid (by rw [EV.out]; simp)
          have tt1 : (K : Int) < (I : Int) - 1 := by omega
          obtain ⟨K1, hK1⟩ : ∃ K1, K + 1 = K1 := ⟨_, rfl⟩
          have tt3 : ((K : Int) + 1) = (K1 : Int) := by omega
          have tk : K ≤ 1000 := by omega
          have HK1 := Lib.hid hK1
          rw [hK1] at S1 S2 c2 f2
          have tt2 : (K1 : Int) < (n : Int) := by omega
          have tt4 : (0 : Int) ≤ (K1 : Int) := by omega
          have tt5 : (K : Int) < (n : Int) := by omega
          have tne : K ≠ K1 := by omega
          clear s1 s2 o hj hk OS hK1 hKn hgo
          go_wp2
          go_region
          go_wp2
          go_roundw
          case rel => exact ⟨U ++ [y], V2, K1, by first | rfl | go_num | (rw [tt3]), Lib.hid (by have := EK.out; have := HK1.out; simp; omega), F1, S1, S2⟩
          case measure => simp [intOf]; omega
        · obtain rfl : V = [] := by
            cases V with
            | nil => rfl
            | cons y V2 => exfalso; have h1 := hvl.out; have := EI.out; have := EK.out; simp at h1; omega
          have FN : Hid (SymPost C g cap n B P [x] Y Q w (.returned (.tuple #[])) wr) := Lib.hid ⟨rfl, _, MR.out, by have := OS.out; rw [EV.out]; simpa using this, GS'.out⟩
          have tt1 : ¬ (K : Int) < (I : Int) - 1 := by omega
          go_wp2
          go_end0
          exact FN.out
end Go.Proofs.Ytejipflkdigbbaa
