/- Walks: the small functions over costs. -/
import Derived.Test.YtejipflkdigbbaaWords
import Derived.Test.YtejipflkdigbbaaPure
namespace Go.Proofs.Ytejipflkdigbbaa
open Go.RowKit

theorem mx_if (y x : Int) : (if y < x then x else y) = max y x := by split <;> omega
theorem cc_big {L : List Int} (h : 1000 < L.length) : cc L = 4 := by unfold cc; rw [if_pos h]
theorem cc_bad {L : List Int} (h : ¬ 1000 < L.length) {k : Nat} (hk : k < L.length) (hb : badc L[k] = true) : cc L = 2 := by
  unfold cc; rw [if_neg h, if_pos]; exact List.any_eq_true.2 ⟨_, List.getElem_mem hk, hb⟩
theorem all_step {L : List Int} {k : Nat} (hk : k < L.length) (h : ∀ x ∈ L.take k, badc x = false) (h' : badc L[k] = false) : ∀ x ∈ L.take (k + 1), badc x = false := by
  intro z hz
  rw [List.take_succ_eq_append_getElem hk, List.mem_append, List.mem_singleton] at hz
  rcases hz with hz | rfl
  · exact h z hz
  · exact h'
theorem cc_good {L : List Int} (h : ¬ 1000 < L.length) {k : Nat} (hk : L.length ≤ k) (hb : ∀ x ∈ L.take k, badc x = false) : cc L = 0 := by
  unfold cc; rw [if_neg h, if_neg]
  rw [List.take_of_length_le hk] at hb
  simp only [Bool.not_eq_true, List.any_eq_false]
  intro x hx
  simp [hb x hx]

set_option maxHeartbeats 1000000 in
theorem checkCosts_any (A : Option Addr) (c : Nat) (L : List Int) (w : World) (hA : RD iv w A L) : Calls Try.prog 27 #[.slice A L.length c] w fun e w' => e = .returned (.int .i64 (cc L)) ∧ w = w' := by
  by_cases h1 : 1000 < L.length
  · rw [cc_big h1]
    go_enter Try.func27, Try.ntmps27
    go_wp2
    go_ret
    exact ⟨rfl, rfl⟩
  · go_enter Try.func27, Try.ntmps27
    go_wp2
    go_loop [10] (fun i => ∃ k : Nat, k ≤ L.length ∧ i = .int .i64 k ∧ Hid (∀ x ∈ L.take k, badc x = false)) (fun i => L.length - (intOf i).toNat)
    case atStart => exact ⟨0, Nat.zero_le _, rfl, by simp [Hid]⟩
    case round =>
      obtain ⟨k, hk, rfl, ht⟩ := hrel
      by_cases hlt : k < L.length
      · obtain ⟨a, rfl, hab, hac⟩ := hA.at hlt
        have HX : Hid (∃ x, L[k] = x) := ⟨_, rfl⟩
        by_cases hb : badc L[k] = true
        · have G := Lib.hid (cc_bad h1 hlt hb)
          have hb' : L[k] < 0 ∨ 1099511627776 < L[k] := by simpa [badc] using hb
          clear hb
          by_cases h0 : L[k] < 0
          · clear hb'
            generalize L[k] = x at *
            go_wp2
            go_ret
            exact ⟨ret_int G.out.symm, rfl⟩
          · have h2 : 1099511627776 < L[k] := by omega
            clear hb'
            generalize L[k] = x at *
            go_wp2
            go_ret
            exact ⟨ret_int G.out.symm, rfl⟩
        · have hb0 : badc L[k] = false := by simpa using hb
          have HN := Lib.hid (all_step hlt ht.out hb0)
          obtain ⟨b1, b2⟩ := badc_false.1 hb0
          clear hb hb0
          generalize L[k] = x at *
          go_wp2
          go_round
          case rel => exact ⟨k + 1, by omega, by go_num, HN⟩
          case measure => simp [intOf]; omega
      · have G := Lib.hid (cc_good h1 (show L.length ≤ k by omega) ht.out)
        go_wp2
        go_ret
        exact ⟨ret_int G.out.symm, rfl⟩

set_option maxHeartbeats 1000000 in
theorem valid_any (A : Option Addr) (c : Nat) (L : List Int) (w : World) (hA : RD iv w A L) : Calls Try.prog 29 #[.slice A L.length c] w fun e w' => e = .returned (.int .i64 (cc L)) ∧ w = w' := by
  by_cases h1 : 1000 < L.length
  · rw [cc_big h1]
    go_enter Try.func29, Try.ntmps29
    go_wp2
    go_ret
    exact ⟨rfl, rfl⟩
  · go_enter Try.func29, Try.ntmps29
    go_wp2
    go_loop [3] (fun i => ∃ k : Nat, k ≤ L.length ∧ i = .int .i64 k ∧ Hid (∀ x ∈ L.take k, badc x = false)) (fun i => L.length - (intOf i).toNat)
    case atStart => exact ⟨0, Nat.zero_le _, rfl, by simp [Hid]⟩
    case round =>
      obtain ⟨k, hk, rfl, ht⟩ := hrel
      by_cases hlt : k < L.length
      · obtain ⟨a, rfl, hab, hac⟩ := hA.at hlt
        have HX : Hid (∃ x, L[k] = x) := ⟨_, rfl⟩
        by_cases hb : badc L[k] = true
        · have G := Lib.hid (cc_bad h1 hlt hb)
          have hb' : L[k] < 0 ∨ 1099511627776 < L[k] := by simpa [badc] using hb
          clear hb
          by_cases h0 : L[k] < 0
          · clear hb'
            generalize L[k] = x at *
            go_wp2
            go_ret
            exact ⟨ret_int G.out.symm, rfl⟩
          · have h2 : 1099511627776 < L[k] := by omega
            clear hb'
            generalize L[k] = x at *
            go_wp2
            go_ret
            exact ⟨ret_int G.out.symm, rfl⟩
        · have hb0 : badc L[k] = false := by simpa using hb
          have HN := Lib.hid (all_step hlt ht.out hb0)
          obtain ⟨b1, b2⟩ := badc_false.1 hb0
          clear hb hb0
          generalize L[k] = x at *
          go_wp2
          go_round
          case rel => exact ⟨k + 1, by omega, by go_num, HN⟩
          case measure => simp [intOf]; omega
      · have G := Lib.hid (cc_good h1 (show L.length ≤ k by omega) ht.out)
        go_wp2
        go_ret
        exact ⟨ret_int G.out.symm, rfl⟩

set_option maxHeartbeats 1000000 in
theorem checkArguments_any (A : Option Addr) (c : Nat) (L : List Int) (n : Int) (w : World) (hA : RD iv w A L) : Calls Try.prog 30 #[.slice A L.length c, .int .i64 n] w fun e w' => e = .returned (.int .i64 (ca L n)) ∧ w = w' := by
  by_cases h0 : cc L = 0
  · have q0 : (cc L != 0) = false := by simpa using h0
    by_cases h1 : n < 1 ∨ 100 < n
    · have G := Lib.hid (show ca L n = 2 by unfold ca; rw [if_neg (by simpa using h0), if_pos h1])
      clear h0
      by_cases h2 : n < 1
      · clear h1
        go_enter Try.func30, Try.ntmps30
        go_wp2_with (go_at_call 27; refine (checkCosts_any A c L _ hA).mono ?_; rintro e w' ⟨rfl, rfl⟩)
        go_ret
        exact ⟨ret_int G.out.symm, rfl⟩
      · have h3 : 100 < n := by omega
        clear h1
        go_enter Try.func30, Try.ntmps30
        go_wp2_with (go_at_call 27; refine (checkCosts_any A c L _ hA).mono ?_; rintro e w' ⟨rfl, rfl⟩)
        go_ret
        exact ⟨ret_int G.out.symm, rfl⟩
    · have G := Lib.hid (show ca L n = 0 by unfold ca; rw [if_neg (by simpa using h0), if_neg h1])
      have h2 : 1 ≤ n := by omega
      have h3 : n ≤ 100 := by omega
      clear h0 h1
      go_enter Try.func30, Try.ntmps30
      go_wp2_with (go_at_call 27; refine (checkCosts_any A c L _ hA).mono ?_; rintro e w' ⟨rfl, rfl⟩)
      go_ret
      exact ⟨ret_int G.out.symm, rfl⟩
  · have q0 : (cc L != 0) = true := by simpa using h0
    have G := Lib.hid (show ca L n = cc L by unfold ca; rw [if_pos h0])
    clear h0
    go_enter Try.func30, Try.ntmps30
    go_wp2_with (go_at_call 27; refine (checkCosts_any A c L _ hA).mono ?_; rintro e w' ⟨rfl, rfl⟩)
    go_ret
    exact ⟨ret_int G.out.symm, rfl⟩

set_option maxHeartbeats 1000000 in
theorem both_any (A : Option Addr) (c : Nat) (L : List Int) (n : Int) (w : World) (hA : RD iv w A L) : Calls Try.prog 36 #[.slice A L.length c, .int .i64 n] w fun e w' => e = .returned (.int .i64 (ca L n)) ∧ w = w' := by
  by_cases h0 : cc L = 0
  · have q0 : (cc L != 0) = false := by simpa using h0
    by_cases h1 : n < 1 ∨ 100 < n
    · have G := Lib.hid (show ca L n = 2 by unfold ca; rw [if_neg (by simpa using h0), if_pos h1])
      clear h0
      by_cases h2 : n < 1
      · clear h1
        go_enter Try.func36, Try.ntmps36
        go_wp2_with (go_at_call 29; refine (valid_any A c L _ hA).mono ?_; rintro e w' ⟨rfl, rfl⟩)
        go_ret
        exact ⟨ret_int G.out.symm, rfl⟩
      · have h3 : 100 < n := by omega
        clear h1
        go_enter Try.func36, Try.ntmps36
        go_wp2_with (go_at_call 29; refine (valid_any A c L _ hA).mono ?_; rintro e w' ⟨rfl, rfl⟩)
        go_ret
        exact ⟨ret_int G.out.symm, rfl⟩
    · have G := Lib.hid (show ca L n = 0 by unfold ca; rw [if_neg (by simpa using h0), if_neg h1])
      have h2 : 1 ≤ n := by omega
      have h3 : n ≤ 100 := by omega
      clear h0 h1
      go_enter Try.func36, Try.ntmps36
      go_wp2_with (go_at_call 29; refine (valid_any A c L _ hA).mono ?_; rintro e w' ⟨rfl, rfl⟩)
      go_ret
      exact ⟨ret_int G.out.symm, rfl⟩
  · have q0 : (cc L != 0) = true := by simpa using h0
    have G := Lib.hid (show ca L n = cc L by unfold ca; rw [if_pos h0])
    clear h0
    go_enter Try.func36, Try.ntmps36
    go_wp2_with (go_at_call 29; refine (valid_any A c L _ hA).mono ?_; rintro e w' ⟨rfl, rfl⟩)
    go_ret
    exact ⟨ret_int G.out.symm, rfl⟩

set_option maxHeartbeats 1000000 in
theorem leastPart_any (A : Option Addr) (c : Nat) (L : List Int) (w : World) (hA : RD iv w A L) (hl : L.length ≤ 9223372036854775807) : Calls Try.prog 34 #[.slice A L.length c] w fun e w' => e = .returned (.int .i64 (lp L)) ∧ w = w' := by
  go_enter Try.func34, Try.ntmps34
  go_wp2
  go_loop [3, 8] (fun b i => ∃ p k : Nat, k ≤ L.length ∧ i = .int .i64 k ∧ b = .int .i64 p ∧ (p = 0 ∨ p < k) ∧ Hid (lp L = lpFrom (L.getD p 0) p k (L.drop k))) (fun _ i => L.length - (intOf i).toNat)
  case atStart => exact ⟨0, 0, Nat.zero_le _, rfl, rfl, .inl rfl, Lib.hid (lp_start L)⟩
  case round =>
    obtain ⟨p, k, hk, rfl, rfl, hp, ht⟩ := hrel
    by_cases hlt : k < L.length
    · have hpl : p < L.length := by omega
      obtain ⟨a, rfl, hab, hac⟩ := hA.at hlt
      obtain ⟨a', e', hab', hac'⟩ := hA.at hpl
      obtain rfl : a' = a := by injection e'; exact Eq.symm ‹_›
      clear e'
      have st := lp_step (b := p) hlt
      have hgp : L.getD p 0 = L[p] := by simp [List.getD_eq_getElem?_getD, hpl]
      by_cases hx : L[k] < L[p]
      · rw [if_pos (by rw [hgp]; exact hx)] at st
        have ST := Lib.hid (ht.out.trans st)
        clear st hgp hp
        generalize L[k] = x at *
        generalize L[p] = y at *
        go_wp2
        go_round
        case rel => exact ⟨k, k + 1, by omega, by go_num, rfl, by omega, ST⟩
        case measure => simp [intOf]; omega
      · rw [if_neg (by rw [hgp]; exact hx)] at st
        have ST := Lib.hid (ht.out.trans st)
        clear st hgp
        generalize L[k] = x at *
        generalize L[p] = y at *
        go_wp2
        go_round
        case rel => exact ⟨p, k + 1, by omega, by go_num, rfl, by omega, ST⟩
        case measure => simp [intOf]; omega
    · have ST := Lib.hid (ht.out.trans (lp_end (show L.length ≤ k by omega)))
      go_wp2
      go_ret
      exact ⟨ret_int (by rw [ST.out]), rfl⟩

set_option maxHeartbeats 1000000 in
theorem least_any (A : Option Addr) (c : Nat) (L : List Int) (w : World) (hA : RD iv w A L) (hl : L.length ≤ 9223372036854775807) : Calls Try.prog 38 #[.slice A L.length c] w fun e w' => e = .returned (.int .i64 (lp L)) ∧ ∃ n, w' = w.drewN n := by
  go_enter Try.func38, Try.ntmps38
  go_wp2
  go_loopw [3, 4] (fun b i wr => ∃ p k : Nat, k ≤ L.length ∧ i = .int .i64 k ∧ b = .int .i64 p ∧ (p = 0 ∨ p < k) ∧ Hid (lp L = lpFrom (L.getD p 0) p k (L.drop k)) ∧ ∃ n, wr = w.drewN n) (fun _ i _ => L.length - (intOf i).toNat)
  case atStart => exact ⟨0, 0, Nat.zero_le _, rfl, rfl, .inl rfl, Lib.hid (lp_start L), 0, rfl⟩
  case round =>
    obtain ⟨p, k, hk, rfl, rfl, hp, ht, n, rfl⟩ := hrel
    by_cases hlt : k < L.length
    · have hpl : p < L.length := by omega
      obtain ⟨a, rfl, hab, hac⟩ := hA.at hlt
      obtain ⟨a', e', hab', hac'⟩ := hA.at hpl
      obtain rfl : a' = a := by injection e'; exact Eq.symm ‹_›
      clear e'
      have st := lp_step (b := p) hlt
      have hgp : L.getD p 0 = L[p] := by simp [List.getD_eq_getElem?_getD, hpl]
      by_cases hx : L[k] < L[p]
      · rw [if_pos (by rw [hgp]; exact hx)] at st
        have ST := Lib.hid (ht.out.trans st)
        clear st hgp hp
        generalize L[k] = x at *
        generalize L[p] = y at *
        go_wp2
        go_quiet (fail)
        go_wp2
        go_roundw
        case rel => exact ⟨k, k + 1, by omega, by go_num, rfl, by omega, ST, _, rfl⟩
        case measure => simp [intOf]; omega
      · rw [if_neg (by rw [hgp]; exact hx)] at st
        have ST := Lib.hid (ht.out.trans st)
        clear st hgp
        generalize L[k] = x at *
        generalize L[p] = y at *
        have hx2 : decide (x < y) = false := by simpa using hx
        go_wp2
        go_quiet (fail)
        go_wp2
        go_roundw
        case rel => exact ⟨p, k + 1, by omega, by go_num, rfl, by omega, ST, _, rfl⟩
        case measure => simp [intOf]; omega
    · have ST := Lib.hid (ht.out.trans (lp_end (show L.length ≤ k by omega)))
      go_wp2
      go_ret
      exact ⟨ret_int (by rw [ST.out]), n, rfl⟩

set_option maxHeartbeats 1000000 in
theorem greatest_any (A : Option Addr) (c : Nat) (L : List Int) (w : World) (hA : RD iv w A L) (hl : L.length ≤ 9223372036854775807) : Calls Try.prog 25 #[.slice A L.length c] w fun e w' => e = .returned (.int .i64 (gmax L)) ∧ w = w' := by
  go_enter Try.func25, Try.ntmps25
  go_wp2
  go_loop [3, 4] (fun m i => ∃ k : Nat, k ≤ L.length ∧ i = .int .i64 k ∧ m = .int .i64 (gmax (L.take k))) (fun _ i => L.length - (intOf i).toNat)
  case atStart => exact ⟨0, Nat.zero_le _, rfl, by simp [gmax]⟩
  case round =>
    obtain ⟨k, hk, rfl, rfl⟩ := hrel
    by_cases hlt : k < L.length
    · obtain ⟨a, rfl, hab, hac⟩ := hA.at hlt
      have ST : Hid (gmax (L.take (k + 1)) = max (gmax (L.take k)) L[k]) := Lib.hid (by unfold gmax; rw [List.take_succ_eq_append_getElem hlt, List.foldl_append]; rfl)
      generalize L[k] = x at *
      generalize gmax (L.take k) = y at *
      go_wp2
      go_round
      case rel => exact ⟨k + 1, by omega, by go_num, by rw [ST.out, mx_if]⟩
      case measure => simp [intOf]; omega
    · go_wp2
      go_ret
      exact ⟨ret_int (by rw [List.take_of_length_le (by omega)]), rfl⟩
end Go.Proofs.Ytejipflkdigbbaa
