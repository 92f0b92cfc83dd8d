/- Walks: Same, great. -/
import Derived.Test.YtejipflkdigbbaaSpn
namespace Go.Proofs.Ytejipflkdigbbaa
open Go.RowKit

theorem lls_take {R Q : List Row} {r : Nat} (h1 : r < R.length) (h2 : r < Q.length) (h : (lls R).take r = (lls Q).take r) (e : R[r].L = Q[r].L) : (lls R).take (r + 1) = (lls Q).take (r + 1) := by
  rw [List.take_succ_eq_append_getElem (by simpa [lls] using h1), List.take_succ_eq_append_getElem (by simpa [lls] using h2), h]
  simp [lls, e]
theorem lls_ne {R Q : List Row} {r : Nat} (h1 : r < R.length) (h2 : r < Q.length) (e : R[r].L ≠ Q[r].L) : decide (lls R = lls Q) = false := by
  simp only [decide_eq_false_iff_not]
  intro h
  apply e
  have : (lls R)[r]? = (lls Q)[r]? := by rw [h]
  simpa [lls, h1, h2] using this
set_option maxRecDepth 100000 in
set_option maxHeartbeats 2000000 in
theorem same_any (A B : Option Addr) (c d : Nat) (R Q : List Row) (w : World) (hA : Rws w A R) (hB : Rws w B Q) (hl : R.length ≤ 9223372036854775807) :
    Calls Try.prog 20 #[.slice A R.length c, .slice B Q.length d] w fun e w' => e = .returned (.bool (decide (lls R = lls Q))) ∧ ∃ n, w' = w.drewN n := by
  by_cases hlen : R.length = Q.length
  · have hne : ((R.length : Int) != (Q.length : Int)) = false := by simp [hlen]
    have HL := Lib.hid hlen
    have HA := Lib.hid hA
    have HB := Lib.hid hB
    clear hlen hA hB
    go_enter Try.func20, Try.ntmps20
    go_wp2
    go_loopw [5] (fun i wr => ∃ r n : Nat, r ≤ R.length ∧ i = .int .i64 r ∧ Hid ((lls R).take r = (lls Q).take r) ∧ wr = w.drewN n) (fun i _ => R.length - (intOf i).toNat)
    case atStart => exact ⟨0, 0, Nat.zero_le _, rfl, by simp [Hid], rfl⟩
    case round =>
      obtain ⟨r, n, hr, rfl, ht, rfl⟩ := hrel
      by_cases hlt : r < R.length
      · have hltm : r < Q.length := by have := HL.out; omega
        obtain ⟨a, rfl, hab, hac⟩ := HA.out.a.at hlt
        obtain ⟨b, rfl, hbb, hbc⟩ := HB.out.a.at hltm
        have r1 := HA.out.r R[r] (List.getElem_mem hlt)
        have r2 := HB.out.r Q[r] (List.getElem_mem hltm)
        have N1 := Lib.hid (lls_take hlt hltm ht.out)
        have N2 := Lib.hid (lls_ne hlt hltm)
        generalize R[r] = row at *
        generalize Q[r] = qow at *
        obtain ⟨ra, rc, rl⟩ := row
        obtain ⟨qa, qc, ql⟩ := qow
        have R1 := Lib.hid r1.a
        have R2 := Lib.hid r2.a
        have hrl := r1.l
        simp only [Row.val] at hac hbc R1 R2 hrl N1 N2
        clear r1 r2
        by_cases hq : rl.length = ql.length
        · have t1 : ((rl.length : Int) != (ql.length : Int)) = false := by simp [hq]
          have HQ := Lib.hid hq
          clear hq
          go_wp2
          go_quiet (fail)
          go_wp2
          go_loopw [6] (fun i wr => ∃ k n : Nat, k ≤ rl.length ∧ i = .int .i64 k ∧ Hid (rl.take k = ql.take k) ∧ wr = w.drewN n) (fun i _ => rl.length - (intOf i).toNat)
          case atStart => exact ⟨0, _, Nat.zero_le _, rfl, by simp [Hid], World.drewN_drewN _ _ _⟩
          case round =>
            obtain ⟨k, m, hk, rfl, hu, rfl⟩ := hrel
            by_cases hlt2 : k < rl.length
            · have hltq : k < ql.length := by have := HQ.out; omega
              obtain ⟨a2, rfl, hab2, hac2⟩ := R1.out.at hlt2
              obtain ⟨b2, rfl, hbb2, hbc2⟩ := R2.out.at hltq
              by_cases e : rl[k] = ql[k]
              · have HE := Lib.hid (take_eq_of_step hlt2 hltq hu.out e)
                have he : (rl[k] != ql[k]) = false := by simp [e]
                clear e
                generalize rl[k] = x at *
                generalize ql[k] = y at *
                go_wp2
                go_quiet (fail)
                go_wp2
                go_roundw
                case rel => exact ⟨k + 1, _, by omega, by go_num, HE, rfl⟩
                case measure => simp [intOf]; omega
              · have he : (rl[k] != ql[k]) = true := by simpa using e
                have HD := Lib.hid (N2.out (by rintro rfl; exact e rfl))
                clear e
                generalize rl[k] = x at *
                generalize ql[k] = y at *
                go_wp2
                go_quiet (fail)
                go_wp2
                go_ret
                exact ⟨by rw [HD.out]; rfl, _, World.drewN_drewN _ _ _⟩
            · have he : rl = ql := by
                have h := hu.out
                have := HQ.out
                rwa [List.take_of_length_le (by omega), List.take_of_length_le (by omega)] at h
              have N3 := Lib.hid (N1.out he)
              clear he
              go_wp2
              go_roundw
              case rel => exact ⟨r + 1, _, by omega, by go_num, N3, rfl⟩
              case measure => simp [intOf]; omega
        · have t1 : ((rl.length : Int) != (ql.length : Int)) = true := by simp; omega
          have HD := Lib.hid (N2.out (by rintro rfl; exact hq rfl))
          clear hq
          go_wp2
          go_quiet (fail)
          go_wp2
          go_ret
          exact ⟨by rw [HD.out]; rfl, _, World.drewN_drewN _ _ _⟩
      · go_wp2
        go_ret
        have h2 := HL.out
        refine ⟨?_, n, rfl⟩
        have h := ht.out
        rw [List.take_of_length_le (by simp [lls]; omega), List.take_of_length_le (by simp [lls]; omega)] at h
        simp [h]
  · have hne : ((R.length : Int) != (Q.length : Int)) = true := by simp; omega
    have hd : decide (lls R = lls Q) = false := by
      simp
      intro e
      apply hlen
      have := congrArg List.length e
      simpa [lls] using this
    rw [hd]
    clear hlen hd
    go_enter Try.func20, Try.ntmps20
    go_wp2
    go_ret
    exact ⟨rfl, 0, rfl⟩

def grt (R : List Row) : Bool := decide (30 < R.length) || R.any (fun r => decide (30 < r.L.length))
theorem grt_false {R : List Row} : grt R = false ↔ R.length ≤ 30 ∧ ∀ r ∈ R, r.L.length ≤ 30 := by
  simp [grt]
set_option maxRecDepth 100000 in
set_option maxHeartbeats 2000000 in
theorem great_any (A : Option Addr) (c : Nat) (R : List Row) (w : World) (hA : Rws w A R) (hl : R.length ≤ 9223372036854775807) :
    Calls Try.prog 10 #[.slice A R.length c] w fun e w' => e = .returned (.bool (grt R)) ∧ w = w' := by
  have HA := Lib.hid hA
  clear hA
  go_enter Try.func10, Try.ntmps10
  go_wp2
  go_loop [7] (fun i => ∃ k : Nat, k ≤ R.length ∧ i = .int .i64 k ∧ Hid (∀ x ∈ R.take k, x.L.length ≤ 30)) (fun i => R.length - (intOf i).toNat)
  case atStart => exact ⟨0, Nat.zero_le _, rfl, by simp [Hid]⟩
  case round =>
    obtain ⟨k, hk, rfl, ht⟩ := hrel
    by_cases hlt : k < R.length
    · obtain ⟨a, rfl, hab, hac⟩ := HA.out.a.at hlt
      have N1 : Hid (R[k].L.length ≤ 30 → ∀ x ∈ R.take (k + 1), x.L.length ≤ 30) := Lib.hid (fun h x hx => by
        rw [List.take_succ_eq_append_getElem hlt, List.mem_append, List.mem_singleton] at hx
        rcases hx with hx | rfl
        · exact ht.out x hx
        · exact h)
      have N2 : Hid (¬ R[k].L.length ≤ 30 → grt R = true) := Lib.hid (fun h => by
        rw [← Bool.not_eq_false]
        intro e
        exact h ((grt_false.1 e).2 _ (List.getElem_mem hlt)))
      generalize R[k] = row at *
      obtain ⟨ra, rc, rl⟩ := row
      simp only [Row.val] at hac N1 N2
      by_cases h30 : rl.length ≤ 30
      · have N3 := Lib.hid (N1.out h30)
        go_wp2
        go_round
        case rel => exact ⟨k + 1, by omega, by go_num, N3⟩
        case measure => simp [intOf]; omega
      · have N3 := Lib.hid (N2.out h30)
        go_wp2
        go_ret
        exact ⟨by rw [N3.out]; rfl, rfl⟩
    · have G : Hid (grt R = decide (30 < (R.length : Int))) := Lib.hid (by
        have h := ht.out
        rw [List.take_of_length_le (by omega)] at h
        have : R.any (fun r => decide (30 < r.L.length)) = false := by simpa using h
        unfold grt
        rw [this, Bool.or_false]
        congr 1
        simp
        omega)
      go_wp2
      go_ret
      refine ⟨?_, rfl⟩
      rw [G.out]
      first | rfl | simp
end Go.Proofs.Ytejipflkdigbbaa
