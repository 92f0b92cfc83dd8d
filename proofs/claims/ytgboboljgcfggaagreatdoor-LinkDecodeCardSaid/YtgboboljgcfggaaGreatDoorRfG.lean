/- Walks: the reference's GetInt, GetText. -/
import Derived.Test.YtgboboljgcfggaaGreatDoorDcC
namespace Go.Proofs.YtgboboljgcfggaaGreatDoor
open Go.RowKit

set_option maxRecDepth 100000 in
set_option maxHeartbeats 4000000 in
theorem rgetInt_any (l : T) (w : World) :
    Calls Tryz.prog 55 #[tv l] w fun e w' => e = gi3 l ∧ w = w' := by
  go_enter Tryz.func55, Tryz.ntmps55
  go_wp2
  go_loop [5, 6, 7] (fun a b c => ∃ (k n : Nat) (u : Int), k ≤ 6 ∧ k ≤ l.length ∧ c = .int .i64 k ∧ a = .int .i64 n ∧ b = .int .i64 u ∧ Hid (u = ((128 ^ k : Nat) : Int)) ∧ (n : Int) < u ∧ Hid (gi l = giF (6 - k) k n (128 ^ k) (l.drop k))) (fun _ _ c => 6 - (intOf c).toNat)
  case atStart => exact ⟨0, 0, 1, Nat.zero_le _, Nat.zero_le _, rfl, rfl, rfl, Lib.hid rfl, by omega, Lib.hid rfl⟩
  case round =>
    obtain ⟨k, n, u, hk6, hk, rfl, rfl, rfl, U, hn, H⟩ := hrel
    by_cases h6 : k < 6
    · have hp := pw_le h6
      have hu : 1 ≤ u ∧ u ≤ 34359738368 := by have := U.out; omega
      by_cases hlt : k < l.length
      · obtain ⟨d, hd⟩ : ∃ d, ({ data := l.toArray } : ByteArray)[k]'hlt = d := ⟨_, rfl⟩
        have HD : Hid (l[k] = d) := Lib.hid hd
        have hdl := UInt8.toNat_lt d
        by_cases h1 : 128 ≤ d.toNat
        · have H' := Lib.hid (round_hi h6 hlt HD.out h1 H.out)
          obtain ⟨m1, m2, m3⟩ := mul_le' (a := d.toNat - 128) (c := 127) U.out (by omega) hp.2
          have ec : ((d.toNat - 128 : Nat) : Int) = (d.toNat : Int) % 128 := by omega
          rw [ec, Int.mul_comm] at m1 m2 m3
          have M3 := Lib.hid m3
          have hun : u * 128 = ((128 ^ (k + 1) : Nat) : Int) := by have := U.out; rw [Nat.pow_succ]; omega
          have U' := Lib.hid hun
          have NL : (n : Int) + u * ((d.toNat : Int) % 128) < u * 128 := by
            have e1 : u * ((d.toNat : Int) % 128) ≤ u * 127 := Int.mul_le_mul_of_nonneg_left (by omega) (by omega)
            omega
          clear m3 ec hun hp
          go_wp2
          go_round
          case rel => exact ⟨k + 1, n + (d.toNat - 128) * 128 ^ k, u * 128, by omega, by omega, by go_num, by rw [M3.out]; rfl, by go_num, U', by rw [Int.natCast_add, ← M3.out]; exact NL, H'⟩
          case measure => simp [intOf]; omega
        · obtain ⟨m1, m2, m3⟩ := mul_le' (a := d.toNat) (c := 127) U.out (by omega) hp.2
          have ec : (d.toNat : Int) = (d.toNat : Int) % 128 := by omega
          rw [Int.mul_comm, ec] at m1 m2 m3
          clear ec
          have M3 := Lib.hid m3
          clear m3 hp
          by_cases h2 : (d.toNat = 0 ∧ 0 < k) ∨ 1099511627776 < n + d.toNat * 128 ^ k
          · have G := Lib.hid (round_bad h6 hlt HD.out h1 h2 H.out)
            have h2' : (d.toNat = 0 ∧ 0 < k) ∨ 1099511627776 < (n : Int) + u * ((d.toNat : Int) % 128) := by rw [M3.out]; omega
            clear h2
            by_cases h0 : d.toNat = 0
            · by_cases hk0 : 0 < k
              · go_wp2
                go_ret3
                exact ⟨gi3_of G.out rfl rfl rfl, rfl⟩
              · exfalso
                have h3 : 1099511627776 < (n : Int) + u * ((d.toNat : Int) % 128) := by omega
                have hu1 := U.out
                obtain rfl : k = 0 := by omega
                rw [h0] at h3
                simp at h3 hu1
                omega
            · have h3 : 1099511627776 < (n : Int) + u * ((d.toNat : Int) % 128) := by omega
              clear h2'
              go_wp2
              go_ret3
              exact ⟨gi3_of G.out rfl rfl rfl, rfl⟩
          · have G := Lib.hid (round_lo h6 hlt HD.out h1 h2 H.out)
            have h2' : ¬ ((d.toNat = 0 ∧ 0 < k) ∨ 1099511627776 < (n : Int) + u * ((d.toNat : Int) % 128)) := by rw [M3.out]; omega
            have h3 : (n : Int) + u * ((d.toNat : Int) % 128) ≤ 1099511627776 := by omega
            have h4 : d.toNat = 0 → ¬ 0 < k := by omega
            clear h2 h2'
            by_cases h0 : d.toNat = 0
            · have hk0 := h4 h0
              clear h4
              go_wp2
              go_ret3
              exact ⟨gi3_of G.out (by first | rw [Int.natCast_add, M3.out] | simp [h0]) (by omega) rfl, rfl⟩
            · clear h4
              have hq0 : ((d.toNat : Int) == 0) = false := by simp; omega
              go_wp2
              all_goals go_ret3
              all_goals exact ⟨gi3_of G.out (by first | rw [Int.natCast_add, M3.out] | simp [h0]) (by omega) rfl, rfl⟩
      · have G := Lib.hid (round_end h6 (show l.length ≤ k by omega) H.out)
        go_wp2
        go_ret3
        exact ⟨gi3_of G.out rfl rfl rfl, rfl⟩
    · obtain rfl : k = 6 := by omega
      have G := Lib.hid (round_six H.out)
      go_wp2
      go_ret3
      exact ⟨gi3_of G.out rfl rfl rfl, rfl⟩

set_option maxRecDepth 100000 in
set_option maxHeartbeats 1000000 in
theorem rgetText_any (l : T) (w : World) (hl : l.length ≤ 1000000000) :
    Calls Tryz.prog 56 #[tv l] w fun e w' => e = gt3 l ∧ w = w' := by
  obtain ⟨n, k, c, hg⟩ : ∃ n k c, gi l = (n, k, c) := ⟨_, _, _, rfl⟩
  have e1 : (gi l).1 = n := by rw [hg]
  have e2 : (gi l).2.1 = k := by rw [hg]
  have e3 : (gi l).2.2 = c := by rw [hg]
  have HG := Lib.hid hg
  have E : Hid (gi3 l = .returned (.tuple #[.int .i64 n, .int .i64 k, .int .i64 c])) := Lib.hid (by unfold gi3; rw [hg])
  have GT : Hid (gt l = if c ≠ 0 then ([], 0, c) else if 65536 < n then ([], 0, 13) else if l.length - k < n then ([], 0, 12) else ((l.drop k).take n, k + n, 0)) := Lib.hid (by unfold gt; rw [hg])
  clear e1 e2 e3 hg
  go_enter Tryz.func56, Tryz.ntmps56
  by_cases h0 : c = 0
  · subst h0
    have hk := gi_len HG.out
    by_cases h1 : 65536 < n
    · have G := Lib.hid (show gt l = ([], 0, 13) by rw [GT.out, if_neg (by simp), if_pos h1])
      go_wp2_with (go_at_call 55; refine (rgetInt_any l _).mono ?_; rintro e w' ⟨rfl, rfl⟩; rw [E.out])
      go_ret3
      exact ⟨gt3_of G.out rfl rfl rfl, rfl⟩
    · by_cases h2 : l.length - k < n
      · have G := Lib.hid (show gt l = ([], 0, 12) by rw [GT.out, if_neg (by simp), if_neg h1, if_pos h2])
        go_wp2_with (go_at_call 55; refine (rgetInt_any l _).mono ?_; rintro e w' ⟨rfl, rfl⟩; rw [E.out])
        go_ret3
        exact ⟨gt3_of G.out rfl rfl rfl, rfl⟩
      · have G := Lib.hid (show gt l = ((l.drop k).take n, k + n, 0) by rw [GT.out, if_neg (by simp), if_neg h1, if_neg h2])
        go_wp2_with (go_at_call 55; refine (rgetInt_any l _).mono ?_; rintro e w' ⟨rfl, rfl⟩; rw [E.out])
        go_ret3
        exact ⟨gt3_of G.out (by rw [extb_take]; rfl) (by omega) rfl, rfl⟩
  · have hc : (c != 0) = true := by simpa using h0
    have G := Lib.hid (show gt l = ([], 0, c) by rw [GT.out, if_pos h0])
    go_wp2_with (go_at_call 55; refine (rgetInt_any l _).mono ?_; rintro e w' ⟨rfl, rfl⟩; rw [E.out])
    go_ret3
    exact ⟨gt3_of G.out rfl rfl rfl, rfl⟩


end Go.Proofs.YtgboboljgcfggaaGreatDoor
