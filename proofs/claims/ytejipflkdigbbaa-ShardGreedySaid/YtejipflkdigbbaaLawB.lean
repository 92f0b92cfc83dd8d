/- Walks: the statements ShardBounds and ShardQuality. -/
import Derived.Test.YtejipflkdigbbaaLawC
import Derived.Test.YtejipflkdigbbaaQck
namespace Go.Proofs.Ytejipflkdigbbaa
open Go.RowKit

theorem bstE_small {C : List Int} {n : Int} (h : ¬ 8 < C.length) : bstE C n = ca C n := by
  unfold bstE
  by_cases h0 : ca C n = 0
  · rw [if_neg (by simpa using h0), if_neg h, h0]
  · rw [if_pos h0]
theorem bst_zero {C : List Int} {N : Nat} (h : ¬ 8 < C.length) (h0 : ca C N = 0) : bst C N = bestR N C [] := by
  unfold bst
  rw [bstE_small h, if_neg (by simpa using h0)]
  simp
/-- Greedy, where it returns a division. -/
theorem greedy_ok {C : List Int} {N : Nat} (h : ca C N = 0) (hS : Sorts C) (A : Option Addr) (c : Nat) (W : World) (hA : RD iv W A C) :
    Calls Try.prog 16 #[.slice A C.length c, .int .i64 N] W fun e w' => ∃ A' d, e = .returned (.tuple #[.slice A' N d, .int .i64 0]) ∧ Below W.heap.size W w' ∧ ∀ B e W2, RD iv W2 B C → Below w'.heap.size w' W2 →
      Calls Try.prog 12 #[.slice B C.length e, .slice A' N d] W2 (fun e w2 => e = .returned (.tuple #[.int .i64 (span C (greedy C N)), .int .i64 0]) ∧ Below W2.heap.size W2 w2) ∧
      Calls Try.prog 14 #[.slice B C.length e, .slice A' N d] W2 (fun e w2 => e = .returned (.int .i64 0) ∧ Below W2.heap.size W2 w2) := by
  refine (greedy_any A c C N W hA hS).mono ?_
  rintro e w' ⟨A', R, d, rfl, hr, hl, hb⟩
  have hlen : R.length = N := by rw [← lls_len, hl]; exact greedy_len h
  refine ⟨A', d, by rw [hlen, h], hb, fun B e W2 hB hb2 => ?_⟩
  have hN := (ca_parts h).2.2.1
  have h1 := span_any B A' e d C R W2 hB (hr.below hb2) (by omega)
  have h2 := check_any B A' e d C R W2 hB (hr.below hb2) (by omega)
  rw [hl, greedy_ck h, if_pos rfl, hlen] at h1
  rw [hl, greedy_ck h, hlen] at h2
  exact ⟨h1, h2⟩

set_option maxRecDepth 100000 in
set_option maxHeartbeats 2000000 in
theorem law_bounds_any (A B : Option Addr) (c d : Nat) (C : List Int) (R : List Row) (w : World) (hA : RD iv w A C) (hB : Rws w B R) (hC : C.length ≤ 9223372036854775807) (hR : R.length ≤ 9223372036854775807) :
    Calls Try.prog 7 #[.slice A C.length c, .slice B R.length d] w (Yes w) := by
  have HA := Lib.hid hA
  have HB := Lib.hid hB
  clear hA hB
  by_cases h30 : 8 < C.length
  · go_enter Try.func7, Try.ntmps7
    go_wp2_with (first | (go_at_call 11; refine (awake_any _).mono ?_; rintro e w1 ⟨rfl, k1⟩))
    go_ret
    exact ⟨rfl, k1⟩
  · have GT := fun W h => great_any B d R W h hR
    cases hg : grt R with
    | true =>
      rw [hg] at GT
      have HGT := Lib.hid GT
      clear GT hg
      go_enter Try.func7, Try.ntmps7
      go_wp2_with (first | (go_at_call 10; refine (HGT.out _ HB.out).mono ?_; rintro e w1 ⟨rfl, rfl⟩) | (go_at_call 11; refine (awake_any _).mono ?_; rintro e w1 ⟨rfl, k1⟩))
      go_ret
      exact ⟨rfl, k1⟩
    | false =>
      have hl := (grt_false.1 hg).1
      rw [hg] at GT
      have SP := fun W h1 h2 => span_any A B c d C R W h1 h2 hR
      have LE := fun W h => leastF_any A c C R.length W h
      have BE := fun W h => bestP_any A c C R.length W h
      rw [bstE_small h30] at BE
      by_cases hz : ck C (lls R) = 0 ∧ ca C R.length = 0
      · obtain ⟨hz1, hz2⟩ := hz
        have GR := greedy_ok hz2 (sorts_small (by omega)) A c
        rw [hz1, if_pos rfl] at SP
        rw [hz2, if_pos rfl] at LE
        rw [hz2, bst_zero h30 hz2] at BE
        have q1 := least_le hz2
        have q2 : bestR R.length C [] ≤ span C (lls R) := by
          have h1 := (ca_parts hz2).2.1
          have := best_le_span (C := C) (l := lls R) (by rw [lls_len]; exact h1) hz1
          rwa [lls_len] at this
        have q3 := best_le_greedy hz2
        generalize span C (greedy C R.length) = t at *
        generalize least C R.length = lo at *
        generalize bestR R.length C [] = be at *
        generalize span C (lls R) = s at *
        have HGT := Lib.hid GT
        have HSP := Lib.hid SP
        have HLE := Lib.hid LE
        have HBE := Lib.hid BE
        have HGR := Lib.hid GR
        clear GT SP LE BE GR hg hz1 hz2
        go_enter Try.func7, Try.ntmps7
        go_wp2_with (first
          | (go_at_call 10; refine (HGT.out _ HB.out).mono ?_; rintro e w1 ⟨rfl, rfl⟩)
          | (go_at_call 12; refine (HSP.out _ HA.out HB.out).mono ?_; rintro e w2 ⟨rfl, k2⟩; have K2 := Lib.hid k2; clear k2 HSP)
          | (go_at_call 18; refine (HLE.out _ (HA.out.below K2.out)).mono ?_; rintro e w3 ⟨rfl, k3⟩; have K3 := Lib.hid (K2.out.trans (k3.mono K2.out.size)); clear k3)
          | (go_at_call 21; refine (HBE.out _ (HA.out.below K3.out)).mono ?_; rintro e w4 ⟨rfl, k4⟩; have K4 := Lib.hid (K3.out.trans (k4.mono K3.out.size)); clear k4)
          | (go_at_call 16; refine (HGR.out _ (HA.out.below K4.out)).mono ?_; rintro e w5 ⟨A5, d5, rfl, k5, s5⟩; have K5 := Lib.hid (K4.out.trans (k5.mono K4.out.size)); have S5 := Lib.hid s5; clear k5 s5)
          | (go_at_call 12; refine (S5.out A c _ (HA.out.below K5.out) (Below.refl _ _)).1.mono ?_; rintro e w6 ⟨rfl, k6⟩; have K6 := Lib.hid (K5.out.trans (k6.mono K5.out.size)); clear k6)
          | (go_at_call 11; refine (awake_any _).mono ?_; rintro e w7 ⟨rfl, k7⟩; have K7 := Lib.hid (K6.out.trans (k7.mono K6.out.size)); clear k7))
        go_ret
        exact ⟨rfl, K7.out⟩
      · have HZ : (ck C (lls R) = 0 ∧ ca C R.length ≠ 0) ∨ ck C (lls R) ≠ 0 := by
          by_cases h1 : ck C (lls R) = 0
          · exact .inl ⟨h1, fun h2 => hz ⟨h1, h2⟩⟩
          · exact .inr h1
        generalize (if ck C (lls R) = 0 then span C (lls R) else 0) = s at *
        generalize (if ca C R.length = 0 then least C R.length else 0) = lo at *
        generalize ck C (lls R) = e0 at *
        generalize ca C R.length = f0 at *
        generalize bst C R.length = be at *
        have HGT := Lib.hid GT
        have HSP := Lib.hid SP
        have HLE := Lib.hid LE
        have HBE := Lib.hid BE
        clear GT SP LE BE hg hz
        rcases HZ with ⟨rfl, hf⟩ | he
        · have q0 : (f0 != 0) = true := by simpa using hf
          clear hf
          go_enter Try.func7, Try.ntmps7
          go_wp2_with (first
            | (go_at_call 10; refine (HGT.out _ HB.out).mono ?_; rintro e w1 ⟨rfl, rfl⟩)
            | (go_at_call 12; refine (HSP.out _ HA.out HB.out).mono ?_; rintro e w2 ⟨rfl, k2⟩; have K2 := Lib.hid k2; clear k2 HSP)
            | (go_at_call 18; refine (HLE.out _ (HA.out.below K2.out)).mono ?_; rintro e w3 ⟨rfl, k3⟩; have K3 := Lib.hid (K2.out.trans (k3.mono K2.out.size)); clear k3)
            | (go_at_call 21; refine (HBE.out _ (HA.out.below K3.out)).mono ?_; rintro e w4 ⟨rfl, k4⟩; have K4 := Lib.hid (K3.out.trans (k4.mono K3.out.size)); clear k4)
            | (go_at_call 11; refine (awake_any _).mono ?_; rintro e w7 ⟨rfl, k7⟩; have K7 := Lib.hid (K4.out.trans (k7.mono K4.out.size)); clear k7))
          go_ret
          exact ⟨rfl, K7.out⟩
        · have q0 : (e0 != 0) = true := by simpa using he
          clear he
          go_enter Try.func7, Try.ntmps7
          go_wp2_with (first
            | (go_at_call 10; refine (HGT.out _ HB.out).mono ?_; rintro e w1 ⟨rfl, rfl⟩)
            | (go_at_call 12; refine (HSP.out _ HA.out HB.out).mono ?_; rintro e w2 ⟨rfl, k2⟩; have K2 := Lib.hid k2; clear k2 HSP)
            | (go_at_call 18; refine (HLE.out _ (HA.out.below K2.out)).mono ?_; rintro e w3 ⟨rfl, k3⟩; have K3 := Lib.hid (K2.out.trans (k3.mono K2.out.size)); clear k3)
            | (go_at_call 21; refine (HBE.out _ (HA.out.below K3.out)).mono ?_; rintro e w4 ⟨rfl, k4⟩; have K4 := Lib.hid (K3.out.trans (k4.mono K3.out.size)); clear k4)
            | (go_at_call 11; refine (awake_any _).mono ?_; rintro e w7 ⟨rfl, k7⟩; have K7 := Lib.hid (K4.out.trans (k7.mono K4.out.size)); clear k7))
          go_ret
          exact ⟨rfl, K7.out⟩

set_option maxRecDepth 100000 in
set_option maxHeartbeats 2000000 in
theorem law_quality_any (A : Option Addr) (c : Nat) (C : List Int) (n : Int) (w : World) (hA : RD iv w A C) (_hc : C.length ≤ c) (hC : C.length ≤ 9223372036854775807) :
    Calls Try.prog 8 #[.slice A C.length c, .int .i64 n] w (Yes w) := by
  have HA := Lib.hid hA
  clear hA
  by_cases h30 : 8 < C.length
  · go_enter Try.func8, Try.ntmps8
    go_wp2_with (first | (go_at_call 11; refine (awake_any _).mono ?_; rintro e w1 ⟨rfl, k1⟩))
    go_ret
    exact ⟨rfl, k1⟩
  · have BE := fun W h => bestP_any A c C n W h
    rw [bstE_small h30] at BE
    by_cases hz : ca C n = 0
    · obtain ⟨-, hn1, hn2⟩ := ca_zero.1 hz
      obtain ⟨N, rfl⟩ : ∃ N : Nat, n = N := ⟨n.toNat, by omega⟩
      have GR := greedy_ok hz (sorts_small (by omega)) A c
      rw [hz, bst_zero h30 hz] at BE
      have q1 := quality hz
      have q2 := best_le_greedy hz
      have q3 := span_bd hz
      have q4 := bestR_nonneg (ca_parts hz).2.1 C []
      generalize span C (greedy C N) = t at *
      generalize bestR N C [] = be at *
      have HBE := Lib.hid BE
      have HGR := Lib.hid GR
      have tN : t ≤ 8796093022208 := by omega
      have r1 : (N : Int) * t ≤ 100 * 8796093022208 := Int.mul_le_mul (by omega) tN q3.1 (by omega)
      have r2 : 0 ≤ (N : Int) * t := Int.mul_nonneg (by omega) q3.1
      have r3 : (4 * (N : Int) - 1) * be ≤ 400 * 8796093022208 := Int.mul_le_mul (by omega) (by omega) q4 (by omega)
      have r4 : 0 ≤ (4 * (N : Int) - 1) * be := Int.mul_nonneg (by omega) q4
      have e1 : 3 * (N : Int) * t = 3 * (N * t) := by rw [Int.mul_assoc]
      have t1 : wrap64 (3 * (N : Int)) = 3 * N := IntWalk.wrap64_in _ (by omega)
      have t2 : wrap64 (3 * (N : Int) * t) = 3 * N * t := IntWalk.wrap64_in _ (by rw [e1]; omega)
      have t3 : wrap64 (4 * (N : Int)) = 4 * N := IntWalk.wrap64_in _ (by omega)
      have t4 : wrap64 (4 * (N : Int) - 1) = 4 * N - 1 := IntWalk.wrap64_in _ (by omega)
      have t5 : wrap64 ((4 * (N : Int) - 1) * be) = (4 * N - 1) * be := IntWalk.wrap64_in _ (by omega)
      have T1 := Lib.hid t1
      have T2 := Lib.hid t2
      have T3 := Lib.hid t3
      have T4 := Lib.hid t4
      have T5 := Lib.hid t5
      have q1' : decide (3 * (N : Int) * t ≤ (4 * N - 1) * be) = true := by simpa using q1
      clear BE GR q2 q3 q4 hz r1 r2 r3 r4 e1 tN
      go_enter Try.func8, Try.ntmps8
      go_wp2_with (first
        | (go_at_call 21; refine (HBE.out _ HA.out).mono ?_; rintro e w4 ⟨rfl, k4⟩; have K4 := Lib.hid k4; clear k4)
        | (go_at_call 16; refine (HGR.out _ (HA.out.below K4.out)).mono ?_; rintro e w5 ⟨A5, d5, rfl, k5, s5⟩; have K5 := Lib.hid (K4.out.trans (k5.mono K4.out.size)); have S5 := Lib.hid s5; clear k5 s5)
        | (go_at_call 12; refine (S5.out A c _ (HA.out.below K5.out) (Below.refl _ _)).1.mono ?_; rintro e w6 ⟨rfl, k6⟩; have K6 := Lib.hid (K5.out.trans (k6.mono K5.out.size)); clear k6)
        | (go_at_call 11; refine (awake_any _).mono ?_; rintro e w7 ⟨rfl, k7⟩; have K7 := Lib.hid (K6.out.trans (k7.mono K6.out.size)); clear k7))
      go_ret
      exact ⟨rfl, K7.out⟩
    · have GR := fun W h => greedy_any A c C n W h (sorts_small (by omega))
      generalize greedy C n = gl at *
      generalize ca C n = f0 at *
      generalize bst C n = be at *
      have HBE := Lib.hid BE
      have HGR := Lib.hid GR
      have q0 : (f0 != 0) = true := by simpa using hz
      clear BE GR hz
      go_enter Try.func8, Try.ntmps8
      go_wp2_with (first
        | (go_at_call 21; refine (HBE.out _ HA.out).mono ?_; rintro e w4 ⟨rfl, k4⟩; have K4 := Lib.hid k4; clear k4)
        | (go_at_call 16; refine (HGR.out _ (HA.out.below K4.out)).mono ?_; rintro e w5 ⟨A5, R5, d5, rfl, -, -, k5⟩; have K5 := Lib.hid (K4.out.trans (k5.mono K4.out.size)); clear k5)
        | (go_at_call 11; refine (awake_any _).mono ?_; rintro e w7 ⟨rfl, k7⟩; have K7 := Lib.hid (K5.out.trans (k7.mono K5.out.size)); clear k7))
      go_ret
      exact ⟨rfl, K7.out⟩
end Go.Proofs.Ytejipflkdigbbaa
