/- Walks: GetInt. -/
import Derived.Test.YtgboboljgcfggaaGreatDoorM7
namespace Go.Proofs.YtgboboljgcfggaaGreatDoor
open Go.RowKit

theorem drop_at {l : T} {k : Nat} (h : k < l.length) : l.drop k = l[k] :: l.drop (k + 1) := (List.getElem_cons_drop h).symm
theorem round_hi {l : T} {k n : Nat} {d : UInt8} (hk : k < 6) (hl : k < l.length) (hd : l[k] = d) (h : 128 ≤ d.toNat) (H : gi l = giF (6 - k) k n (128 ^ k) (l.drop k)) : gi l = giF (6 - (k + 1)) (k + 1) (n + (d.toNat - 128) * 128 ^ k) (128 ^ (k + 1)) (l.drop (k + 1)) := by
  rw [H, drop_at hl, hd, show 6 - k = (6 - (k + 1)) + 1 by omega]
  simp only [giF]
  rw [if_pos h, Nat.pow_succ]
theorem round_bad {l : T} {k n : Nat} {d : UInt8} (hk : k < 6) (hl : k < l.length) (hd : l[k] = d) (h : ¬ 128 ≤ d.toNat) (hb : (d.toNat = 0 ∧ 0 < k) ∨ 1099511627776 < n + d.toNat * 128 ^ k) (H : gi l = giF (6 - k) k n (128 ^ k) (l.drop k)) : gi l = (0, 0, 13) := by
  rw [H, drop_at hl, hd, show 6 - k = (6 - (k + 1)) + 1 by omega]
  simp only [giF]
  rw [if_neg h, if_pos hb]
theorem round_lo {l : T} {k n : Nat} {d : UInt8} (hk : k < 6) (hl : k < l.length) (hd : l[k] = d) (h : ¬ 128 ≤ d.toNat) (hb : ¬ ((d.toNat = 0 ∧ 0 < k) ∨ 1099511627776 < n + d.toNat * 128 ^ k)) (H : gi l = giF (6 - k) k n (128 ^ k) (l.drop k)) : gi l = (n + d.toNat * 128 ^ k, k + 1, 0) := by
  rw [H, drop_at hl, hd, show 6 - k = (6 - (k + 1)) + 1 by omega]
  simp only [giF]
  rw [if_neg h, if_neg hb]
theorem round_end {l : T} {k n : Nat} (hk : k < 6) (hl : l.length ≤ k) (H : gi l = giF (6 - k) k n (128 ^ k) (l.drop k)) : gi l = (0, 0, 12) := by
  rw [H, List.drop_eq_nil_of_le hl, show 6 - k = (6 - (k + 1)) + 1 by omega]
  simp only [giF]
theorem round_six {l : T} {n : Nat} (H : gi l = giF (6 - 6) 6 n (128 ^ 6) (l.drop 6)) : gi l = (0, 0, 13) := by
  rw [H]; simp only [Nat.sub_self, giF]
/-- The results of GetInt. -/
def gi3 (l : T) : Ending := .returned (.tuple #[.int .i64 (gi l).1, .int .i64 (gi l).2.1, .int .i64 (gi l).2.2])
theorem gi3_of {l : T} {a b : Nat} {c : Int} (h : gi l = (a, b, c)) {x y z : Int} (hx : x = a) (hy : y = b) (hz : z = c) : Ending.returned (.tuple #[.int .i64 x, .int .i64 y, .int .i64 z]) = gi3 l := by
  unfold gi3; rw [h, hx, hy, hz]

theorem pw_le {k : Nat} (h : k < 6) : 1 ≤ 128 ^ k ∧ 128 ^ k ≤ 34359738368 := by
  have : k = 0 ∨ k = 1 ∨ k = 2 ∨ k = 3 ∨ k = 4 ∨ k = 5 := by omega
  rcases this with rfl | rfl | rfl | rfl | rfl | rfl <;> decide
theorem mul_le' {a b c : Nat} {u : Int} (e : u = b) (h : a ≤ c) (hb : b ≤ 34359738368) : 0 ≤ (a : Int) * u ∧ (a : Int) * u ≤ (c : Int) * 34359738368 ∧ (a : Int) * u = ((a * b : Nat) : Int) := by
  subst e
  have h1 : a * b ≤ c * 34359738368 := Nat.mul_le_mul h hb
  have e1 : (a : Int) * (b : Int) = ((a * b : Nat) : Int) := by simp
  rw [e1]
  omega

set_option maxRecDepth 100000 in
set_option maxHeartbeats 4000000 in
theorem getInt_any (l : T) (w : World) :
    Calls Tryz.prog 48 #[tv l] w fun e w' => e = gi3 l ∧ w = w' := by
  go_enter Tryz.func48, Tryz.ntmps48
  go_wp2
  go_loop [5, 6, 9] (fun a b c => ∃ (k n : Nat) (u : Int), k ≤ 6 ∧ k ≤ l.length ∧ c = .int .i64 k ∧ a = .int .i64 n ∧ b = .int .i64 u ∧ Hid (u = ((128 ^ k : Nat) : Int)) ∧ (n : Int) < u ∧ Hid (gi l = giF (6 - k) k n (128 ^ k) (l.drop k))) (fun _ _ c => 6 - (intOf c).toNat)
  case atStart => exact ⟨0, 0, 1, Nat.zero_le _, Nat.zero_le _, rfl, rfl, rfl, Lib.hid rfl, by omega, Lib.hid rfl⟩
  case round =>
    obtain ⟨k, n, u, hk6, hk, rfl, rfl, rfl, U, hn, H⟩ := hrel
    by_cases h6 : k < 6
    · have hp := pw_le h6
      have hu : 1 ≤ u ∧ u ≤ 34359738368 := by have := U.out; omega
      by_cases hlt : k < l.length
      · obtain ⟨d, hd⟩ : ∃ d, ({ data := l.toArray } : ByteArray)[k]'hlt = d := ⟨_, rfl⟩
        have HD : Hid (l[k] = d) := Lib.hid hd
        have hdl := UInt8.toNat_lt d
        by_cases h1 : 128 ≤ d.toNat
        · have H' := Lib.hid (round_hi h6 hlt HD.out h1 H.out)
          obtain ⟨m1, m2, m3⟩ := mul_le' (a := d.toNat - 128) (c := 127) U.out (by omega) hp.2
          have ec : ((d.toNat - 128 : Nat) : Int) = (d.toNat : Int) - 128 := by omega
          rw [ec] at m1 m2 m3
          have M3 := Lib.hid m3
          have hun : u * 128 = ((128 ^ (k + 1) : Nat) : Int) := by have := U.out; rw [Nat.pow_succ]; omega
          have U' := Lib.hid hun
          have NL : (n : Int) + ((d.toNat : Int) - 128) * u < u * 128 := by
            have e1 : ((d.toNat : Int) - 128) * u ≤ 127 * u := Int.mul_le_mul_of_nonneg_right (by omega) (by omega)
            omega
          clear m3 ec hun hp
          go_wp2
          go_round
          case rel => exact ⟨k + 1, n + (d.toNat - 128) * 128 ^ k, u * 128, by omega, by omega, by go_num, by rw [M3.out]; rfl, by go_num, U', by rw [Int.natCast_add, ← M3.out]; exact NL, H'⟩
          case measure => simp [intOf]; omega
        · obtain ⟨m1, m2, m3⟩ := mul_le' (a := d.toNat) (c := 127) U.out (by omega) hp.2
          have M3 := Lib.hid m3
          clear m3 hp
          by_cases h2 : (d.toNat = 0 ∧ 0 < k) ∨ 1099511627776 < n + d.toNat * 128 ^ k
          · have G := Lib.hid (round_bad h6 hlt HD.out h1 h2 H.out)
            have h2' : (d.toNat = 0 ∧ 0 < k) ∨ 1099511627776 < (n : Int) + d.toNat * u := by rw [M3.out]; omega
            clear h2
            by_cases h0 : d.toNat = 0
            · by_cases hk0 : 0 < k
              · go_wp2
                go_ret3
                exact ⟨gi3_of G.out rfl rfl rfl, rfl⟩
              · exfalso
                have h3 : 1099511627776 < (n : Int) + d.toNat * u := by omega
                have hu1 := U.out
                obtain rfl : k = 0 := by omega
                rw [h0] at h3
                simp at h3 hu1
                omega
            · have h3 : 1099511627776 < (n : Int) + d.toNat * u := by omega
              clear h2'
              go_wp2
              go_ret3
              exact ⟨gi3_of G.out rfl rfl rfl, rfl⟩
          · have G := Lib.hid (round_lo h6 hlt HD.out h1 h2 H.out)
            have h2' : ¬ ((d.toNat = 0 ∧ 0 < k) ∨ 1099511627776 < (n : Int) + d.toNat * u) := by rw [M3.out]; omega
            have h3 : (n : Int) + d.toNat * u ≤ 1099511627776 := by omega
            have h4 : d.toNat = 0 → ¬ 0 < k := by omega
            clear h2 h2'
            by_cases h0 : d.toNat = 0
            · have hk0 := h4 h0
              clear h4
              go_wp2
              go_ret3
              exact ⟨gi3_of G.out (by first | rw [Int.natCast_add, M3.out] | simp [h0]) (by omega) rfl, rfl⟩
            · clear h4
              go_wp2
              go_ret3
              exact ⟨gi3_of G.out (by first | rw [Int.natCast_add, M3.out] | simp [h0]) (by omega) rfl, rfl⟩
      · have G := Lib.hid (round_end h6 (show l.length ≤ k by omega) H.out)
        go_wp2
        go_ret3
        exact ⟨gi3_of G.out rfl rfl rfl, rfl⟩
    · obtain rfl : k = 6 := by omega
      have G := Lib.hid (round_six H.out)
      go_wp2
      go_ret3
      exact ⟨gi3_of G.out rfl rfl rfl, rfl⟩
end Go.Proofs.YtgboboljgcfggaaGreatDoor
