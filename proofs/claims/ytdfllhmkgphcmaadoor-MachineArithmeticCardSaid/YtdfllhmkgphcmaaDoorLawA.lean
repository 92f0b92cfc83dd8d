/- The law MachineArithmetic. -/
import Derived.Test.YtdfllhmkgphcmaaDoorLawA1
import Derived.Test.YtdfllhmkgphcmaaDoorLawA2
import Derived.Test.YtdfllhmkgphcmaaDoorLawA3
import Derived.Test.YtdfllhmkgphcmaaDoorLawA4
namespace Go.Proofs.YtdfllhmkgphcmaaDoor
open Go.RowKit

theorem ar_far {a b : Int} (h : a < -999999999 ∨ 999999999 < a ∨ b < -999999999 ∨ 999999999 < b) : a < -999999999 ∨ (¬ a < -999999999 ∧ 999999999 < a) ∨ (¬ a < -999999999 ∧ ¬ 999999999 < a ∧ b < -999999999) ∨ (¬ a < -999999999 ∧ ¬ 999999999 < a ∧ ¬ b < -999999999 ∧ 999999999 < b) := by omega
set_option maxRecDepth 100000 in
set_option maxHeartbeats 4000000 in
theorem ar_out (a b op : Int) (w : World) (h : a < -999999999 ∨ 999999999 < a ∨ b < -999999999 ∨ 999999999 < b) : Calls Tryd.prog 6 #[iv a, iv b, .int .u8 op] w fun e w' => e = .returned (.bool true) ∧ w.grownBy w' none := by
  have AW := Lib.hid awake_any
  rcases ar_far h with h1 | ⟨h1, h2⟩ | ⟨h1, h2, h3⟩ | ⟨h1, h2, h3, h4⟩
  all_goals
    clear h
    go_enter Tryd.func6, Tryd.ntmps6
    go_wp2_with (first | (go_at_call 14; refine (AW.out _).mono ?_; rintro e w5 ⟨rfl, g5⟩; have G5 := Lib.hid g5; clear g5))
    go_ret
    exact ⟨rfl, G5.out⟩
theorem ar_mul {a b : Int} (ha : -999999999 ≤ a ∧ a ≤ 999999999) (hb : -999999999 ≤ b ∧ b ≤ 999999999) : -9000000000000000000 ≤ a * b ∧ a * b ≤ 9000000000000000000 := by
  have h1 : (a * b).natAbs ≤ 999999999 * 999999999 := by
    rw [Int.natAbs_mul]
    exact Nat.mul_le_mul (by omega) (by omega)
  omega
theorem law_arith_any (a b op : Int) (w : World) (hop' : 0 ≤ op ∧ op ≤ 255) : Calls Tryd.prog 6 #[iv a, iv b, .int .u8 op] w fun e w' => e = .returned (.bool true) ∧ w.grownBy w' none := by
  by_cases hr : a < -999999999 ∨ 999999999 < a ∨ b < -999999999 ∨ 999999999 < b
  · exact ar_out a b op w hr
  · have ha : -999999999 ≤ a ∧ a ≤ 999999999 := by omega
    have hb : -999999999 ≤ b ∧ b ≤ 999999999 := by omega
    have hC := ar_mul ha hb
    have k0 : 0 ≤ op.tmod 5 := Int.tmod_nonneg 5 hop'.1
    have k5 : op.tmod 5 < 5 := Int.tmod_lt_of_pos op (by decide)
    have hk : op.tmod 5 = 0 ∨ op.tmod 5 = 1 ∨ op.tmod 5 = 2 ∨ op.tmod 5 = 3 ∨ op.tmod 5 = 4 := by omega
    have hc : a = b ∨ a < b ∨ b < a := by omega
    rcases hk with hk | hk | hk | hk | hk
    · by_cases hv : a + b < -999999999 ∨ 999999999 < a + b
      · rcases hc with hc | hc | hc
        · exact ar_0_eq_no a b op (a * b) w ha hb hop'.1 hop'.2 hk hc rfl hC.1 hC.2 hv
        · exact ar_0_lt_no a b op (a * b) w ha hb hop'.1 hop'.2 hk hc rfl hC.1 hC.2 hv
        · exact ar_0_gt_no a b op (a * b) w ha hb hop'.1 hop'.2 hk hc rfl hC.1 hC.2 hv
      · have hv' : ¬ (a + b < -999999999) ∧ ¬ (999999999 < a + b) := ⟨fun h => hv (.inl h), fun h => hv (.inr h)⟩
        rcases hc with hc | hc | hc
        · exact ar_0_eq_ok a b op (a * b) w ha hb hop'.1 hop'.2 hk hc rfl hC.1 hC.2 hv'
        · exact ar_0_lt_ok a b op (a * b) w ha hb hop'.1 hop'.2 hk hc rfl hC.1 hC.2 hv'
        · exact ar_0_gt_ok a b op (a * b) w ha hb hop'.1 hop'.2 hk hc rfl hC.1 hC.2 hv'
    · by_cases hv : a - b < -999999999 ∨ 999999999 < a - b
      · rcases hc with hc | hc | hc
        · exact absurd hv (by omega)
        · exact ar_1_lt_no a b op (a * b) w ha hb hop'.1 hop'.2 hk hc rfl hC.1 hC.2 hv
        · exact ar_1_gt_no a b op (a * b) w ha hb hop'.1 hop'.2 hk hc rfl hC.1 hC.2 hv
      · have hv' : ¬ (a - b < -999999999) ∧ ¬ (999999999 < a - b) := ⟨fun h => hv (.inl h), fun h => hv (.inr h)⟩
        rcases hc with hc | hc | hc
        · exact ar_1_eq_ok a b op (a * b) w ha hb hop'.1 hop'.2 hk hc rfl hC.1 hC.2 hv'
        · exact ar_1_lt_ok a b op (a * b) w ha hb hop'.1 hop'.2 hk hc rfl hC.1 hC.2 hv'
        · exact ar_1_gt_ok a b op (a * b) w ha hb hop'.1 hop'.2 hk hc rfl hC.1 hC.2 hv'
    · by_cases hv : a * b < -999999999 ∨ 999999999 < a * b
      · rcases hc with hc | hc | hc
        · exact ar_2_eq_no a b op (a * b) w ha hb hop'.1 hop'.2 hk hc rfl hC.1 hC.2 hv
        · exact ar_2_lt_no a b op (a * b) w ha hb hop'.1 hop'.2 hk hc rfl hC.1 hC.2 hv
        · exact ar_2_gt_no a b op (a * b) w ha hb hop'.1 hop'.2 hk hc rfl hC.1 hC.2 hv
      · have hv' : ¬ (a * b < -999999999) ∧ ¬ (999999999 < a * b) := ⟨fun h => hv (.inl h), fun h => hv (.inr h)⟩
        rcases hc with hc | hc | hc
        · exact ar_2_eq_ok a b op (a * b) w ha hb hop'.1 hop'.2 hk hc rfl hC.1 hC.2 hv'
        · exact ar_2_lt_ok a b op (a * b) w ha hb hop'.1 hop'.2 hk hc rfl hC.1 hC.2 hv'
        · exact ar_2_gt_ok a b op (a * b) w ha hb hop'.1 hop'.2 hk hc rfl hC.1 hC.2 hv'
    · rcases hc with hc | hc | hc
      · exact ar_3_eq_ok a b op (a * b) w ha hb hop'.1 hop'.2 hk hc rfl hC.1 hC.2
      · exact ar_3_lt_ok a b op (a * b) w ha hb hop'.1 hop'.2 hk hc rfl hC.1 hC.2
      · exact ar_3_gt_ok a b op (a * b) w ha hb hop'.1 hop'.2 hk hc rfl hC.1 hC.2
    · rcases hc with hc | hc | hc
      · exact ar_4_eq_ok a b op (a * b) w ha hb hop'.1 hop'.2 hk hc rfl hC.1 hC.2
      · exact ar_4_lt_ok a b op (a * b) w ha hb hop'.1 hop'.2 hk hc rfl hC.1 hC.2
      · exact ar_4_gt_ok a b op (a * b) w ha hb hop'.1 hop'.2 hk hc rfl hC.1 hC.2
end Go.Proofs.YtdfllhmkgphcmaaDoor
