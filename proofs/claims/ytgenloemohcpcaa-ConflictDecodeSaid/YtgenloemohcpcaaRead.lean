/- Walks of the functions that only read lists of texts. -/
import Derived.Test.YtgenloemohcpcaaWords
import Derived.Deep.QuietTactic
import Derived.BigQuiet
import Derived.WalkLawsBesides
import Derived.WalkSpells
import Derived.Lib.Hide
import Derived.Sort.Walk0
namespace Go.Proofs.Ytgenloemohcpcaa
open Go.RowKit

theorem add_zero' (a : Addr) : a.add 0 = a := by simp [Addr.add]

theorem take_eq_of_step {L M : List T} {k : Nat} (hk : k < L.length) (hm : k < M.length) (h : L.take k = M.take k) (e : L[k] = M[k]) : L.take (k + 1) = M.take (k + 1) := by
  rw [List.take_succ_eq_append_getElem hk, List.take_succ_eq_append_getElem hm, h, e]

set_option maxHeartbeats 400000 in
theorem same_any (A B : Option Addr) (c d : Nat) (L M : List T) (w : World) (hA : RD w A L) (hB : RD w B M) (hl : L.length ≤ 9223372036854775807) :
    Calls Try.prog 34 #[.slice A L.length c, .slice B M.length d] w fun e w' => e = .returned (.bool (decide (L = M))) ∧ ∃ n, w' = w.drewN n := by
  by_cases hlen : L.length = M.length
  · have hne : ((L.length : Int) != (M.length : Int)) = false := by simp [hlen]
    have HL := Lib.hid hlen
    clear hlen
    go_enter Try.func34, Try.ntmps34
    go_wp2
    go_loopw [5] (fun i wr => ∃ k n : Nat, k ≤ L.length ∧ i = .int .i64 k ∧ Hid (L.take k = M.take k) ∧ wr = w.drewN n) (fun i _ => L.length - (intOf i).toNat)
    case atStart => exact ⟨0, 0, Nat.zero_le _, rfl, by simp [Hid], rfl⟩
    case round =>
      obtain ⟨k, n, hk, rfl, ht, rfl⟩ := hrel
      by_cases hlt : k < L.length
      · have hltm : k < M.length := by have := HL.out; omega
        obtain ⟨a, rfl, hab, hac⟩ := hA.at hlt
        obtain ⟨b, rfl, hbb, hbc⟩ := hB.at hltm
        by_cases e : L[k] = M[k]
        · have he : (L[k] == M[k]) = true := by simp [e]
          have HE := Lib.hid e
          clear e
          go_wp2
          go_quiet (fail)
          go_wp2
          go_roundw
          case rel => exact ⟨k + 1, _, by omega, by go_num, take_eq_of_step hlt hltm ht.out HE.out, rfl⟩
          case measure => simp [intOf]; omega
        · have he : (L[k] == M[k]) = false := by simpa using e
          have hd : decide (L = M) = false := by
            simp
            rintro rfl
            exact e rfl
          have HD := Lib.hid hd
          clear e hd
          go_wp2
          go_quiet (fail)
          go_wp2
          go_ret
          exact ⟨by rw [HD.out]; rfl, _, World.drewN_drewN _ _ _⟩
      · go_wp2
        go_ret
        have := HL.out
        refine ⟨?_, n, rfl⟩
        have h := ht.out
        rw [List.take_of_length_le (by omega), List.take_of_length_le (by omega)] at h
        simp [h]
  · have hne : ((L.length : Int) != (M.length : Int)) = true := by simp; omega
    have hd : decide (L = M) = false := by
      simp
      intro e
      exact hlen (by rw [e])
    rw [hd]
    clear hlen hd
    go_enter Try.func34, Try.ntmps34
    go_wp2
    go_ret
    exact ⟨rfl, 0, rfl⟩

set_option maxHeartbeats 400000 in
theorem equal_any (A B : Option Addr) (c d : Nat) (L M : List T) (w : World) (hA : RD w A L) (hB : RD w B M) (hl : L.length ≤ 9223372036854775807) :
    Calls Try.prog 42 #[.slice A L.length c, .slice B M.length d] w fun e w' => e = .returned (.bool (decide (L = M))) ∧ ∃ n, w' = w.drewN n := by
  by_cases hlen : L.length = M.length
  · have hne : ((L.length : Int) != (M.length : Int)) = false := by simp [hlen]
    have HL := Lib.hid hlen
    clear hlen
    go_enter Try.func42, Try.ntmps42
    go_wp2
    go_loopw [13] (fun i wr => ∃ k n : Nat, k ≤ L.length ∧ i = .int .i64 k ∧ Hid (L.take k = M.take k) ∧ wr = w.drewN n) (fun i _ => L.length - (intOf i).toNat)
    case atStart => exact ⟨0, 0, Nat.zero_le _, rfl, by simp [Hid], rfl⟩
    case round =>
      obtain ⟨k, n, hk, rfl, ht, rfl⟩ := hrel
      by_cases hlt : k < L.length
      · have hltm : k < M.length := by have := HL.out; omega
        obtain ⟨a, rfl, hab, hac⟩ := hA.at hlt
        obtain ⟨b, rfl, hbb, hbc⟩ := hB.at hltm
        by_cases e : L[k] = M[k]
        · have he : (L[k] == M[k]) = true := by simp [e]
          have HE := Lib.hid e
          clear e
          go_wp2
          go_quiet (fail)
          go_wp2
          go_roundw
          case rel => exact ⟨k + 1, _, by omega, by go_num, take_eq_of_step hlt hltm ht.out HE.out, rfl⟩
          case measure => simp [intOf]; omega
        · have he : (L[k] == M[k]) = false := by simpa using e
          have hd : decide (L = M) = false := by
            simp
            rintro rfl
            exact e rfl
          have HD := Lib.hid hd
          clear e hd
          go_wp2
          go_quiet (fail)
          go_wp2
          go_ret
          exact ⟨by rw [HD.out]; rfl, _, World.drewN_drewN _ _ _⟩
      · go_wp2
        go_ret
        have := HL.out
        refine ⟨?_, n, rfl⟩
        have h := ht.out
        rw [List.take_of_length_le (by omega), List.take_of_length_le (by omega)] at h
        simp [h]
  · have hne : ((L.length : Int) != (M.length : Int)) = true := by simp; omega
    have hd : decide (L = M) = false := by
      simp
      intro e
      exact hlen (by rw [e])
    rw [hd]
    clear hlen hd
    go_enter Try.func42, Try.ntmps42
    go_wp2
    go_ret
    exact ⟨rfl, 0, rfl⟩

theorem ret_bool {a b : Bool} (h : a = b) : Ending.returned (.bool a) = .returned (.bool b) := by rw [h]
theorem ret_int {k : IntKind} {a b : Int} (h : a = b) : Ending.returned (.int k a) = .returned (.int k b) := by rw [h]

set_option maxHeartbeats 400000 in
theorem has_any (A : Option Addr) (c : Nat) (L : List T) (x : T) (w : World) (hA : RD w A L) (hl : L.length ≤ 9223372036854775807) :
    Calls Try.prog 39 #[.slice A L.length c, tv x] w fun e w' => e = .returned (.bool (hasB L x)) ∧ w = w' := by
  go_enter Try.func39, Try.ntmps39
  go_wp2
  go_loop [5] (fun i => ∃ k : Nat, k ≤ L.length ∧ i = .int .i64 k ∧ Hid (x ∉ L.take k)) (fun i => L.length - (intOf i).toNat)
  case atStart => exact ⟨0, Nat.zero_le _, rfl, by simp [Hid]⟩
  case round =>
    obtain ⟨k, hk, rfl, ht⟩ := hrel
    by_cases hlt : k < L.length
    · obtain ⟨a, rfl, hab, hac⟩ := hA.at hlt
      by_cases e : L[k] = x
      · have he : (L[k] == x) = true := by simp [e]
        have HE := Lib.hid e
        clear e
        go_wp2
        go_ret
        exact ⟨ret_bool (by rw [hasB_yes]; rw [← HE.out]; exact List.getElem_mem hlt), rfl⟩
      · have he : (L[k] == x) = false := by simpa using e
        have HE := Lib.hid e
        clear e
        go_wp2
        go_round
        case rel =>
          refine ⟨k + 1, by omega, by go_num, ?_⟩
          show x ∉ L.take (k + 1)
          rw [List.take_succ_eq_append_getElem hlt]
          simp only [List.mem_append, List.mem_singleton, not_or]
          exact ⟨ht.out, fun e => HE.out e.symm⟩
        case measure => simp [intOf]; omega
    · go_wp2
      go_ret
      refine ⟨ret_bool ?_, rfl⟩
      have h := ht.out
      rw [List.take_of_length_le (by omega)] at h
      rw [hasB_no h]

set_option maxHeartbeats 400000 in
theorem checkList_any (A : Option Addr) (c : Nat) (L : List T) (w : World) (hA : RD w A L) (hl : L.length ≤ 9223372036854775807) :
    Calls Try.prog 35 #[.slice A L.length c] w fun e w' => e = .returned (.int .i64 (lst L)) ∧ w = w' := by
  go_enter Try.func35, Try.ntmps35
  go_wp2
  go_loop [7] (fun i => ∃ k : Nat, k ≤ L.length ∧ i = .int .i64 k ∧ Hid (lst L = lstFrom (prev L k) (L.drop k))) (fun i => L.length - (intOf i).toNat)
  case atStart => exact ⟨0, Nat.zero_le _, rfl, lst_start L⟩
  case round =>
    obtain ⟨k, hk, rfl, ht⟩ := hrel
    by_cases hlt : k < L.length
    · obtain ⟨a, rfl, hab, hac⟩ := hA.at hlt
      have st := lst_step L hlt
      by_cases h1 : 65536 < L[k].length
      · rw [if_pos h1] at st
        have ST := Lib.hid st
        clear st
        go_wp2
        go_ret
        exact ⟨ret_int (by rw [ht.out, ST.out]), rfl⟩
      · rw [if_neg h1] at st
        by_cases h0 : 0 < k
        · rw [prev_pos L hlt h0] at st
          obtain ⟨a', e', hab', hac'⟩ := hA.at (show k - 1 < L.length by omega)
          obtain rfl : a' = a := by injection e'; exact Eq.symm ‹_›
          clear e'
          by_cases h2 : L[k] < L[k - 1]
          · rw [if_pos (by simpa using h2), ← prev_pos L hlt h0] at st
            have hb : Op.bytesLess L[k] L[k - 1] = true := by rw [bytesLess_eq]; simpa using h2
            have ST := Lib.hid st
            clear st h2
            go_wp2
            go_ret
            exact ⟨ret_int (by rw [ht.out, ST.out]), rfl⟩
          · rw [if_neg (by simpa using h2), ← prev_pos L hlt h0] at st
            have hb : Op.bytesLess L[k] L[k - 1] = false := by rw [bytesLess_eq]; simpa using h2
            have ST := Lib.hid st
            clear st h2
            go_wp2
            go_round
            case rel => exact ⟨k + 1, by omega, by go_num, ht.out.trans ST.out⟩
            case measure => simp [intOf]; omega
        · obtain rfl : k = 0 := by omega
          rw [if_neg (by simp [prev])] at st
          rw [add_zero'] at hac
          have ST := Lib.hid st
          clear st
          go_wp2
          go_round
          case rel => exact ⟨0 + 1, by omega, by go_num, ht.out.trans ST.out⟩
          case measure => simp [intOf]; omega
    · have st := lst_end L (show L.length ≤ k by omega)
      have ST := Lib.hid st
      clear st
      go_wp2
      go_ret
      exact ⟨ret_int (by rw [ht.out, ST.out]), rfl⟩

set_option maxHeartbeats 400000 in
theorem ascending_any (A : Option Addr) (c : Nat) (L : List T) (w : World) (hA : RD w A L) (hl : L.length ≤ 9223372036854775807) :
    Calls Try.prog 38 #[.slice A L.length c] w fun e w' => e = .returned (.int .i64 (lst L)) ∧ ∃ n, w' = w.drewN n := by
  go_enter Try.func38, Try.ntmps38
  go_wp2
  go_loopw [3] (fun i wr => ∃ k n : Nat, k ≤ L.length ∧ i = .int .i64 k ∧ Hid (lst L = lstFrom (prev L k) (L.drop k)) ∧ wr = w.drewN n) (fun i _ => L.length - (intOf i).toNat)
  case atStart => exact ⟨0, 0, Nat.zero_le _, rfl, lst_start L, rfl⟩
  case round =>
    obtain ⟨k, n, hk, rfl, ht, rfl⟩ := hrel
    by_cases hlt : k < L.length
    · obtain ⟨a, rfl, hab, hac⟩ := hA.at hlt
      have st := lst_step L hlt
      by_cases h1 : 65536 < L[k].length
      · rw [if_pos h1] at st
        have ST := Lib.hid st
        clear st
        by_cases h0 : 0 < k
        · go_wp2
          go_ret
          exact ⟨ret_int (by rw [ht.out, ST.out]), _, rfl⟩
        · obtain rfl : k = 0 := by omega
          rw [add_zero'] at hac
          go_wp2
          go_ret
          exact ⟨ret_int (by rw [ht.out, ST.out]), _, rfl⟩
      · rw [if_neg h1] at st
        by_cases h0 : 0 < k
        · rw [prev_pos L hlt h0] at st
          obtain ⟨a', e', hab', hac'⟩ := hA.at (show k - 1 < L.length by omega)
          obtain rfl : a' = a := by injection e'; exact Eq.symm ‹_›
          clear e'
          by_cases h2 : L[k] < L[k - 1]
          · rw [if_pos (by simpa using h2), ← prev_pos L hlt h0] at st
            have hb : Op.bytesLess L[k - 1] L[k] = false := by rw [bytesLess_eq]; simpa using le_of_lt' h2
            have hb2 : (L[k - 1] == L[k]) = false := by simp; intro e; rw [e] at h2; exact lt_irr _ h2
            have ST := Lib.hid st
            clear st h2
            go_wp2
            go_quiet (fail)
            go_wp2
            go_ret
            exact ⟨ret_int (by rw [ht.out, ST.out]), _, World.drewN_drewN _ _ _⟩
          · rw [if_neg (by simpa using h2), ← prev_pos L hlt h0] at st
            have hb : (Op.bytesLess L[k - 1] L[k] || L[k - 1] == L[k]) = true := by
              rw [bytesLess_eq]
              by_cases e : L[k - 1] = L[k]
              · simp [e]
              · simp [lt_of_le_ne (le_of_nlt h2) e]
            have ST := Lib.hid st
            clear st h2
            go_wp2
            go_quiet (fail)
            go_wp2
            go_roundw
            case rel => exact ⟨k + 1, _, by omega, by go_num, ht.out.trans ST.out, rfl⟩
            case measure => simp [intOf]; omega
        · obtain rfl : k = 0 := by omega
          rw [if_neg (by simp [prev])] at st
          rw [add_zero'] at hac
          have ST := Lib.hid st
          clear st
          go_wp2
          go_quiet (fail)
          go_wp2
          go_roundw
          case rel => exact ⟨0 + 1, _, by omega, by go_num, ht.out.trans ST.out, rfl⟩
          case measure => simp [intOf]; omega
    · have st := lst_end L (show L.length ≤ k by omega)
      have ST := Lib.hid st
      clear st
      go_wp2
      go_ret
      exact ⟨ret_int (by rw [ht.out, ST.out]), _, rfl⟩
end Go.Proofs.Ytgenloemohcpcaa
