/- Walks: the statements ShardCheck and ShardBest. -/
import Derived.Test.YtejipflkdigbbaaAwk
namespace Go.Proofs.Ytejipflkdigbbaa
open Go.RowKit

def Yes (w : World) (e : Ending) (w' : World) : Prop := e = .returned (.bool true) ∧ Below w.heap.size w w'

set_option maxRecDepth 100000 in
set_option maxHeartbeats 2000000 in
theorem law_check_any (A B : Option Addr) (c d : Nat) (C : List Int) (R : List Row) (w : World) (hA : RD iv w A C) (hB : Rws w B R) (hC : C.length ≤ 9223372036854775807) (hR : R.length ≤ 9223372036854775807) :
    Calls Try.prog 3 #[.slice A C.length c, .slice B R.length d] w (Yes w) := by
  have HA := Lib.hid hA
  have HB := Lib.hid hB
  clear hA hB
  by_cases h30 : 30 < C.length
  · go_enter Try.func3, Try.ntmps3
    go_wp2_with (first | (go_at_call 11; refine (awake_any _).mono ?_; rintro e w1 ⟨rfl, k1⟩))
    go_ret
    exact ⟨rfl, k1⟩
  · have GT := fun W h => great_any B d R W h hR
    cases hg : grt R with
    | true =>
      rw [hg] at GT
      have HGT := Lib.hid GT
      clear GT hg
      go_enter Try.func3, Try.ntmps3
      go_wp2_with (first | (go_at_call 10; refine (HGT.out _ HB.out).mono ?_; rintro e w1 ⟨rfl, rfl⟩) | (go_at_call 11; refine (awake_any _).mono ?_; rintro e w1 ⟨rfl, k1⟩))
      go_ret
      exact ⟨rfl, k1⟩
    | false =>
      have hl := (grt_false.1 hg).1
      rw [hg] at GT
      have SP := fun W h1 h2 => span_any A B c d C R W h1 h2 hR
      have RSP := fun W h1 h2 => rspan_any A B c d C R W h1 h2 (by omega)
      have CK := fun W h1 h2 => check_any A B c d C R W h1 h2 hR
      have RCK := fun W h1 h2 => rcheck_any A B c d C R W h1 h2 hR
      generalize (if ck C (lls R) = 0 then span C (lls R) else 0) = s at SP RSP
      generalize ck C (lls R) = k at SP RSP CK RCK
      have HGT := Lib.hid GT
      have HSP := Lib.hid SP
      have HRSP := Lib.hid RSP
      have HCK := Lib.hid CK
      have HRCK := Lib.hid RCK
      clear GT SP RSP CK RCK hg
      go_enter Try.func3, Try.ntmps3
      go_wp2_with (first
        | (go_at_call 10; refine (HGT.out _ HB.out).mono ?_; rintro e w1 ⟨rfl, rfl⟩)
        | (go_at_call 12; refine (HSP.out _ HA.out HB.out).mono ?_; rintro e w2 ⟨rfl, k2⟩; have K2 := Lib.hid k2; clear k2)
        | (go_at_call 13; refine (HRSP.out _ (HA.out.below K2.out) (HB.out.below K2.out)).mono ?_; rintro e w3 ⟨rfl, k3⟩; have K3 := Lib.hid (K2.out.trans (k3.mono K2.out.size)); clear k3)
        | (go_at_call 14; refine (HCK.out _ (HA.out.below K3.out) (HB.out.below K3.out)).mono ?_; rintro e w4 ⟨rfl, k4⟩; have K4 := Lib.hid (K3.out.trans (k4.mono K3.out.size)); clear k4)
        | (go_at_call 15; refine (HRCK.out _ (HA.out.below K4.out) (HB.out.below K4.out)).mono ?_; rintro e w5 ⟨rfl, k5⟩; have K5 := Lib.hid (K4.out.trans (k5.mono K4.out.size)); clear k5)
        | (go_at_call 11; refine (awake_any _).mono ?_; rintro e w6 ⟨rfl, k6⟩; have K6 := Lib.hid (K5.out.trans (k6.mono K5.out.size)); clear k6))
      go_ret
      exact ⟨rfl, K6.out⟩

set_option maxRecDepth 100000 in
set_option maxHeartbeats 2000000 in
theorem law_best_any (A : Option Addr) (c : Nat) (C : List Int) (n : Int) (w : World) (hA : RD iv w A C) (hc : C.length ≤ c) (hC : C.length ≤ 9223372036854775807) :
    Calls Try.prog 5 #[.slice A C.length c, .int .i64 n] w (Yes w) := by
  have HA := Lib.hid hA
  clear hA
  by_cases h30 : 10 < C.length
  · go_enter Try.func5, Try.ntmps5
    go_wp2_with (first | (go_at_call 11; refine (awake_any _).mono ?_; rintro e w1 ⟨rfl, k1⟩))
    go_ret
    exact ⟨rfl, k1⟩
  · have BP := fun W h => bestP_any A c C n W h
    have BR := fun W h => rbest_any A c C n W h hc
    generalize bst C n = s at BP BR
    generalize bstE C n = k at BP BR
    have HBP := Lib.hid BP
    have HBR := Lib.hid BR
    clear BP BR
    go_enter Try.func5, Try.ntmps5
    go_wp2_with (first
      | (go_at_call 21; refine (HBP.out _ HA.out).mono ?_; rintro e w2 ⟨rfl, k2⟩; have K2 := Lib.hid k2; clear k2)
      | (go_at_call 22; refine (HBR.out _ (HA.out.below K2.out)).mono ?_; rintro e w3 ⟨rfl, k3⟩; have K3 := Lib.hid (K2.out.trans (k3.mono K2.out.size)); clear k3)
      | (go_at_call 11; refine (awake_any _).mono ?_; rintro e w6 ⟨rfl, k6⟩; have K6 := Lib.hid (K3.out.trans (k6.mono K3.out.size)); clear k6))
    go_ret
    exact ⟨rfl, K6.out⟩
end Go.Proofs.Ytejipflkdigbbaa
