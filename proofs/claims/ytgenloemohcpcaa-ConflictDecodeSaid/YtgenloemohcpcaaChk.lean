/- Walks of Check, its reference, and the small functions on sums. -/
import Derived.Test.YtgenloemohcpcaaRead
namespace Go.Proofs.Ytgenloemohcpcaa
open Go.RowKit

/-- The value of a sum. -/
abbrev sv (A B : Option Addr) (n c m d : Nat) : Value := .agg #[.slice A n c, .slice B m d]

def cc (L M : List T) : Int := if com L M then 7 else 0
theorem cc_yes {L M : List T} (h : com L M = true) : cc L M = 7 := by unfold cc; rw [if_pos h]
theorem cc_no {L M : List T} (h : com L M = false) : cc L M = 0 := by unfold cc; rw [if_neg (by simp [h])]

theorem chk1 {L M : List T} (h : L.length ≠ M.length + 1) : chk L M = 11 := by unfold chk; rw [if_pos h]
theorem chk2 {L M : List T} (h : L.length = M.length + 1) (h2 : 1000 < L.length) : chk L M = 4 := by unfold chk; rw [if_neg (by omega), if_pos h2]
theorem chk3 {L M : List T} (h : L.length = M.length + 1) (h2 : ¬ 1000 < L.length) (h3 : lst L ≠ 0) : chk L M = lst L := by unfold chk; rw [if_neg (by omega), if_neg h2, if_pos h3]
theorem chk4 {L M : List T} (h : L.length = M.length + 1) (h2 : ¬ 1000 < L.length) (h3 : lst L = 0) (h4 : lst M ≠ 0) : chk L M = lst M := by
  unfold chk; rw [if_neg (by omega), if_neg h2, if_neg (by simpa using h3), if_pos h4]
theorem chk5 {L M : List T} (h : L.length = M.length + 1) (h2 : ¬ 1000 < L.length) (h3 : lst L = 0) (h4 : lst M = 0) : chk L M = cc L M := by
  unfold chk cc; rw [if_neg (by omega), if_neg h2, if_neg (by simpa using h3), if_neg (by simpa using h4)]

set_option maxHeartbeats 1000000 in
theorem check_any (A B : Option Addr) (c d : Nat) (L M : List T) (w : World) (hA : RD w A L) (hB : RD w B M) (hl : L.length ≤ 9223372036854775807) (hm : M.length ≤ 9223372036854775806) :
    Calls Try.prog 15 #[sv A B L.length c M.length d] w fun e w' => e = .returned (.int .i64 (chk L M)) ∧ Below w.heap.size w w' := by
  by_cases h1 : L.length = M.length + 1
  · have t1 : ((L.length : Int) != (M.length : Int) + 1) = false := by simp [h1]
    by_cases h2 : 1000 < L.length
    · rw [chk2 h1 h2]
      clear h1
      go_enter Try.func15, Try.ntmps15
      go_wp2_with fail
      go_ret
      exact ⟨rfl, (Below.refl _ _).alloc (Nat.le_refl _) _⟩
    · by_cases h3 : lst L = 0
      · by_cases h4 : lst M = 0
        · rw [chk5 h1 h2 h3 h4]
          have t3 : (lst L != 0) = false := by simp [h3]
          have t4 : (lst M != 0) = false := by simp [h4]
          have sL := ((lst_zero L).1 h3).2
          have sM := ((lst_zero M).1 h4).2
          have t2 : decide (1000 < (L.length : Int)) = false := by simp; omega
          have SL := Lib.hid sL
          have SM := Lib.hid sM
          clear h1 h3 h4 sL sM
          go_enter Try.func15, Try.ntmps15
          go_wp2_with fail
          refine (checkList_any A c L _ (hA.alloc _) hl).mono ?_
          rintro e w' ⟨rfl, rfl⟩
          go_wp2_with fail
          refine (checkList_any B d M _ (hB.alloc _) (by omega)).mono ?_
          rintro e w' ⟨rfl, rfl⟩
          go_wp2_with fail
          generalize hW : w.alloc (Obj.cells #[Value.slice A L.length c, Value.slice B M.length d] 24) = W
          have b0 : Below w.heap.size w W := by rw [← hW]; exact (Below.refl _ _).alloc (Nat.le_refl _) _
          have hA' := hA.below b0
          have hB' := hB.below b0
          have f0 : W.cell? ⟨w.heap.size, 0, none⟩ = some (.slice A L.length c) := by rw [← hW]; simp [World.cell?_alloc_at]
          have f1 : W.cell? ⟨w.heap.size, 1, none⟩ = some (.slice B M.length d) := by rw [← hW]; simp [World.cell?_alloc_at]
          clear hW hA hB
          have B0 := Lib.hid b0
          clear b0
          go_loopw [5, 6] (fun i k wr => ∃ x y n : Nat, x ≤ L.length ∧ y ≤ M.length ∧ i = .int .i64 x ∧ k = .int .i64 y ∧ Hid (TP L M x y) ∧ wr = W.drewN n) (fun i k _ => (L.length - (intOf i).toNat) + (M.length - (intOf k).toNat))
          case atStart => exact ⟨0, 0, 0, Nat.zero_le _, Nat.zero_le _, rfl, rfl, tp_start L M, rfl⟩
          case round =>
            obtain ⟨x, y, n, hx, hy, rfl, rfl, ht, rfl⟩ := hrel
            by_cases hxl : x < L.length
            · by_cases hyl : y < M.length
              · obtain ⟨a, rfl, hab, hac⟩ := hA'.at hxl
                obtain ⟨b, rfl, hbb, hbc⟩ := hB'.at hyl
                by_cases e : L[x] = M[y]
                · have he : (L[x] == M[y]) = true := by simp [e]
                  have hc := tp_found hxl hyl e
                  have HC := Lib.hid hc
                  clear e hc
                  go_wp2
                  go_quiet (fail)
                  go_wp2
                  go_ret
                  exact ⟨by rw [cc_yes HC.out]; rfl, by simpa using below_drewN B0.out _⟩
                · have he : (L[x] == M[y]) = false := by simpa using e
                  by_cases hlt : L[x] < M[y]
                  · have hb : Op.bytesLess L[x] M[y] = true := by rw [bytesLess_eq]; simpa using hlt
                    have hn := tp_left ht.out hxl hyl SM.out hlt
                    have HN := Lib.hid hn
                    clear e hn hlt
                    go_wp2
                    go_quiet (fail)
                    go_wp2
                    go_quiet (fail)
                    go_wp2
                    go_roundw
                    case rel => exact ⟨x + 1, y, _, by omega, by omega, by go_num, rfl, HN.out, rfl⟩
                    case measure => simp [intOf]; omega
                  · have hb : Op.bytesLess L[x] M[y] = false := by rw [bytesLess_eq]; simpa using hlt
                    have hn := tp_right ht.out hxl hyl SL.out (lt_of_le_ne (le_of_nlt hlt) (Ne.symm e))
                    have HN := Lib.hid hn
                    clear e hn hlt
                    go_wp2
                    go_quiet (fail)
                    go_wp2
                    go_quiet (fail)
                    go_wp2
                    go_roundw
                    case rel => exact ⟨x, y + 1, _, by omega, by omega, rfl, by go_num, HN.out, rfl⟩
                    case measure => simp [intOf]; omega
              · go_wp2
                go_ret
                exact ⟨by rw [cc_no (tp_end ht.out (.inr (by omega)))]; rfl, below_drewN B0.out _⟩
            · go_wp2
              go_ret
              exact ⟨by rw [cc_no (tp_end ht.out (.inl (by omega)))]; rfl, below_drewN B0.out _⟩
        · rw [chk4 h1 h2 h3 h4]
          have t3 : (lst L != 0) = false := by simp [h3]
          have t4 : (lst M != 0) = true := by simpa using h4
          clear h1 h3 h4
          go_enter Try.func15, Try.ntmps15
          go_wp2_with fail
          refine (checkList_any A c L _ (hA.alloc _) hl).mono ?_
          rintro e w' ⟨rfl, rfl⟩
          go_wp2_with fail
          refine (checkList_any B d M _ (hB.alloc _) (by omega)).mono ?_
          rintro e w' ⟨rfl, rfl⟩
          go_wp2_with fail
          go_ret
          exact ⟨rfl, (Below.refl _ _).alloc (Nat.le_refl _) _⟩
      · rw [chk3 h1 h2 h3]
        have t3 : (lst L != 0) = true := by simpa using h3
        clear h1 h3
        go_enter Try.func15, Try.ntmps15
        go_wp2_with fail
        refine (checkList_any A c L _ (hA.alloc _) hl).mono ?_
        rintro e w' ⟨rfl, rfl⟩
        go_wp2_with fail
        go_ret
        exact ⟨rfl, (Below.refl _ _).alloc (Nat.le_refl _) _⟩
  · rw [chk1 h1]
    have t1 : ((L.length : Int) != (M.length : Int) + 1) = true := by simp; omega
    clear h1
    go_enter Try.func15, Try.ntmps15
    go_wp2_with fail
    go_ret
    exact ⟨rfl, (Below.refl _ _).alloc (Nat.le_refl _) _⟩
end Go.Proofs.Ytgenloemohcpcaa
