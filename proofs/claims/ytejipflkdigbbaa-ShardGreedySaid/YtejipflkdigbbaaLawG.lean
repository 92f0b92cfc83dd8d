/- Walk: the statement ShardGreedy. -/
import Derived.Test.YtejipflkdigbbaaLawB
import Derived.Test.YtejipflkdigbbaaSy5
import Derived.Test.YtejipflkdigbbaaGrr
namespace Go.Proofs.Ytejipflkdigbbaa
open Go.RowKit

theorem greedy_len_le (C : List Int) (n : Int) : (greedy C n).length ≤ 100 := by
  by_cases h : ca C n = 0
  · obtain ⟨-, hn1, hn2⟩ := ca_zero.1 h
    obtain ⟨N, rfl⟩ : ∃ N : Nat, n = N := ⟨n.toNat, by omega⟩
    rw [greedy_len h]
    omega
  · unfold greedy
    rw [if_neg h]
    simp

set_option maxRecDepth 100000 in
set_option maxHeartbeats 4000000 in
theorem law_greedy_any (A : Option Addr) (c : Nat) (C : List Int) (n : Int) (w : World) (hA : RD iv w A C) (_hc : C.length ≤ c) (hC : C.length ≤ 9223372036854775807) :
    Calls Try.prog 4 #[.slice A C.length c, .int .i64 n] w (Yes w) := by
  have HA := Lib.hid hA
  clear hA
  by_cases h30 : 30 < C.length
  · go_enter Try.func4, Try.ntmps4
    go_wp2_with (first | (go_at_call 11; refine (awake_any _).mono ?_; rintro e w1 ⟨rfl, k1⟩))
    go_ret
    exact ⟨rfl, k1⟩
  have hS : Sorts C := sorts_thirty (by omega)
  have GR := fun W h => greedy_any A c C n W h hS
  have RG := fun W h => rgreedy_any A c C n W h
  have LE := fun W h => leastF_any A c C n W h
  have RL := fun W h => rleast_any A c C n W h
  have hgl := greedy_len_le C n
  generalize (if ca C n = 0 then least C n else 0) = lo at *
  generalize ca C n = f0 at *
  generalize greedy C n = gl at *
  have HGR := Lib.hid GR
  have HRG := Lib.hid RG
  have HLE := Lib.hid LE
  have HRL := Lib.hid RL
  have HGL := Lib.hid hgl
  clear GR RG LE RL hS hgl
  go_enter Try.func4, Try.ntmps4
  go_wp2_with (first
    | (go_at_call 16; refine (HGR.out _ HA.out).mono ?_; rintro e w1 ⟨A1, R1, d1, rfl, r1, l1, k1⟩; have K1 := Lib.hid k1; have RR1 := Lib.hid r1; have LL1 := Lib.hid l1; clear k1 r1 l1)
    | (go_at_call 17; refine (HRG.out _ (HA.out.below K1.out)).mono ?_; rintro e w2 ⟨A2, R2, d2, rfl, r2, l2, k2⟩; have J2 := Lib.hid k2; have K2 := Lib.hid (K1.out.trans (k2.mono K1.out.size)); have RR2 := Lib.hid r2; have LL2 := Lib.hid l2; clear k2 r2 l2)
    | (go_at_call 18; refine (HLE.out _ (HA.out.below K2.out)).mono ?_; rintro e w3 ⟨rfl, k3⟩; have J3 := Lib.hid k3; have K3 := Lib.hid (K2.out.trans (k3.mono K2.out.size)); clear k3)
    | (go_at_call 19; refine (HRL.out _ (HA.out.below K3.out)).mono ?_; rintro e w4 ⟨rfl, k4⟩; have J4 := Lib.hid k4; have K4 := Lib.hid (K3.out.trans (k4.mono K3.out.size)); clear k4)
    | (go_at_call 20; refine (same_any A1 A2 d1 d2 R1 R2 _ (((RR1.out.below J2.out).below J3.out).below J4.out) ((RR2.out.below J3.out).below J4.out) (by have := HGL.out; rw [← LL1.out, lls_len] at this; omega)).mono ?_; rintro e w5 ⟨he, n5, rfl⟩; have he2 : e = .returned (.bool true) := he.trans (by rw [LL1.out, LL2.out]; simp); clear he; subst he2; have K5 := Lib.hid (below_drewN K4.out n5))
    | (go_at_call 11; refine (awake_any _).mono ?_; rintro e w7 ⟨rfl, k7⟩; have K7 := Lib.hid (K5.out.trans (k7.mono K5.out.size)); clear k7))
  go_ret
  exact ⟨rfl, K7.out⟩
end Go.Proofs.Ytejipflkdigbbaa
