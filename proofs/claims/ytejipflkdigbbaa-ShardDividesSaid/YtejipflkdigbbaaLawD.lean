/- Walk: the statement ShardDivides. -/
import Derived.Test.YtejipflkdigbbaaLawB
import Derived.Test.YtejipflkdigbbaaSy5
namespace Go.Proofs.Ytejipflkdigbbaa
open Go.RowKit

theorem le_span {C : List Int} {N : Nat} (h : ca C N = 0) {c : Int} (hc : c ∈ C) : c ≤ span C (greedy C N) := by
  have h1 := least_le h
  have h2 := best_le_greedy h
  have hne : C ≠ [] := fun e => by rw [e] at hc; simp at hc
  have h3 := le_gmax hc
  rw [gmax_dsc (fun c hc => ((ca_parts h).2.2.2.2 c hc).1) hne] at h3
  have h4 : (dsc C).getD 0 0 ≤ least C N := by
    unfold least
    simp only [hne, if_false]
    split <;> omega
  omega
theorem sum_span {C : List Int} {N : Nat} (h : ca C N = 0) : C.sum ≤ N * span C (greedy C N) := by
  have h1 := fits_total (fits_perm (dsc_perm C).symm _ _ (best_fits (ca_parts h).2.1 C))
  rw [sum_perm (dsc_perm C)] at h1
  have h2 := best_le_greedy h
  have h3 : (N : Int) * bestR N C [] ≤ N * span C (greedy C N) := Int.mul_le_mul_of_nonneg_left h2 (by omega)
  omega

set_option maxRecDepth 100000 in
set_option maxHeartbeats 4000000 in
theorem law_divides_any (A : Option Addr) (c : Nat) (C : List Int) (n : Int) (w : World) (hA : RD iv w A C) (_hc : C.length ≤ c) (hC : C.length ≤ 9223372036854775807) :
    Calls Try.prog 6 #[.slice A C.length c, .int .i64 n] w (Yes w) := by
  have HA := Lib.hid hA
  clear hA
  by_cases h30 : 30 < C.length
  · go_enter Try.func6, Try.ntmps6
    go_wp2_with (first | (go_at_call 11; refine (awake_any _).mono ?_; rintro e w1 ⟨rfl, k1⟩))
    go_ret
    exact ⟨rfl, k1⟩
  have hS : Sorts C := sorts_thirty (by omega)
  by_cases hz : ca C n = 0
  · obtain ⟨-, hn1, hn2⟩ := ca_zero.1 hz
    obtain ⟨N, rfl⟩ : ∃ N : Nat, n = N := ⟨n.toNat, by omega⟩
    have HGR := Lib.hid (greedy_ok hz hS A c)
    have q1 : Hid (∀ c ∈ C, c ≤ span C (greedy C N)) := Lib.hid (fun c hc => le_span hz hc)
    have q2 := sum_span hz
    have q3 := span_bd hz
    have QC : Hid (∀ c ∈ C, 0 ≤ c ∧ c ≤ 1099511627776) := Lib.hid (ca_parts hz).2.2.2.2
    generalize span C (greedy C N) = t at *
    have tN : t ≤ 32985348833280 := by omega
    have r1 : (N : Int) * t ≤ 100 * 32985348833280 := Int.mul_le_mul (by omega) tN q3.1 (by omega)
    have r2 : 0 ≤ (N : Int) * t := Int.mul_nonneg (by omega) q3.1
    have t1 : wrap64 ((N : Int) * t) = N * t := IntWalk.wrap64_in _ (by omega)
    have Q2 : Hid (decide (C.sum ≤ (N : Int) * t) = true) := Lib.hid (by simpa using q2)
    clear hz hS q2
    go_enter Try.func6, Try.ntmps6
    go_wp2_with (first
      | (go_at_call 16; refine (HGR.out _ HA.out).mono ?_; rintro e w1 ⟨A1, d1, rfl, k1, s1⟩; have K1 := Lib.hid k1; have S1 := Lib.hid s1; clear k1 s1)
      | (go_at_call 12; refine (S1.out A c _ (HA.out.below K1.out) (Below.refl _ _)).1.mono ?_; rintro e w2 ⟨rfl, k2⟩; have K2 := Lib.hid (K1.out.trans (k2.mono K1.out.size)); have J2 := Lib.hid k2; clear k2))
    go_loop [9, 38] (fun s i => ∃ k : Nat, k ≤ C.length ∧ i = .int .i64 k ∧ s = .int .i64 (C.take k).sum) (fun _ i => C.length - (intOf i).toNat)
    case atStart => exact ⟨0, Nat.zero_le _, rfl, by simp⟩
    case round =>
      obtain ⟨k, hk, rfl, rfl⟩ := hrel
      have HB := Lib.hid (HA.out.below K2.out)
      by_cases hlt : k < C.length
      · obtain ⟨a2, rfl, hab2, hac2⟩ := HB.out.at hlt
        have b1 := sum_bd (L := C.take k) (fun c hc => QC.out c (List.mem_of_mem_take hc))
        have b2 : (C.take k).length ≤ 30 := by simp; omega
        have b3 := QC.out _ (List.getElem_mem hlt)
        have b4 : ¬ t < C[k] := by have := q1.out _ (List.getElem_mem hlt); omega
        have S' := Lib.hid (sum_take hlt)
        generalize (C.take k).sum = z at *
        generalize C[k] = v at *
        go_wp2
        go_round
        case rel => exact ⟨k + 1, by omega, by go_num, by rw [S'.out]⟩
        case measure => simp [intOf]; omega
      · obtain rfl : k = C.length := by omega
        have e : Hid ((C.take C.length).sum = C.sum) := Lib.hid (by rw [List.take_length])
        rw [e.out]
        have Q2' := Q2.out
        generalize C.sum = z at *
        have bb : ¬ (N : Int) * t < z := by simpa using Q2'
        go_wp2_with (first
          | (go_at_call 14; refine (S1.out A c _ HB.out J2.out).2.mono ?_; rintro e w3 ⟨rfl, k3⟩; have K3 := Lib.hid (K2.out.trans (k3.mono K2.out.size)); clear k3)
          | (go_at_call 11; refine (awake_any _).mono ?_; rintro e w7 ⟨rfl, k7⟩; have K7 := Lib.hid (K3.out.trans (k7.mono K3.out.size)); clear k7))
        go_ret
        exact ⟨rfl, K7.out⟩
  · have GR := fun W h => greedy_any A c C n W h hS
    have hg : greedy C n = [] := by unfold greedy; rw [if_neg hz]
    rw [hg] at GR
    generalize ca C n = f0 at *
    have HGR := Lib.hid GR
    have q0 : (f0 != 0) = true := by simpa using hz
    clear GR hz hS hg
    go_enter Try.func6, Try.ntmps6
    go_wp2_with (first
      | (go_at_call 16; refine (HGR.out _ HA.out).mono ?_; rintro e w5 ⟨A5, R5, d5, rfl, -, l5, k5⟩; have z5 : R5.length = 0 := (by have h := congrArg List.length l5; rw [lls_len] at h; simpa using h); have K5 := Lib.hid k5; clear k5 l5)
      | (go_at_call 11; refine (awake_any _).mono ?_; rintro e w7 ⟨rfl, k7⟩; have K7 := Lib.hid (K5.out.trans (k7.mono K5.out.size)); clear k7))
    go_ret
    exact ⟨rfl, K7.out⟩
end Go.Proofs.Ytejipflkdigbbaa
