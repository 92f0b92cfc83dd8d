/- Walks: Span, Sums, the reference's Span, SameInts, Same, great. -/
import Derived.Test.YtejipflkdigbbaaChk
import Derived.Test.YtejipflkdigbbaaPure3
import Derived.Test.YtejipflkdigbbaaApp
namespace Go.Proofs.Ytejipflkdigbbaa
open Go.RowKit

theorem costs_at {w : World} {A : Option Addr} {C : List Int} (hA : RD iv w A C) {j : Nat} (hj : j < C.length) : ∃ a, A = some a ∧ a.block < w.heap.size ∧ w.cell? (a.add j) = some (.int .i64 (C.getD j 0)) := by
  obtain ⟨a, e, hb, hc⟩ := hA.at hj
  exact ⟨a, e, hb, by rw [hc]; simp [List.getD_eq_getElem?_getD, hj]⟩
/-- A division that is valid, as the walks use it. -/
structure Fit (C : List Int) (R : List Row) : Prop where
  n : C.length ≤ 1000
  c : ∀ c ∈ C, 0 ≤ c ∧ c ≤ 1099511627776
  i : ∀ r ∈ R, ∀ i ∈ r.L, 0 ≤ i ∧ i < C.length
  l : ∀ r ∈ R, r.L.length ≤ 1000
theorem fit_of {C : List Int} {R : List Row} (h : ck C (lls R) = 0) : Fit C R := by
  obtain ⟨h0, h1, -⟩ := ck_ok h
  obtain ⟨a, b⟩ := cc_zero.1 h0
  refine ⟨a, b, fun r hr i hi => (h1 r.L (List.mem_map.2 ⟨r, hr, rfl⟩)).1 i hi, fun r hr => ?_⟩
  have := row_bd h (List.mem_map.2 ⟨r, hr, rfl⟩ : r.L ∈ lls R)
  omega

set_option maxRecDepth 100000 in
set_option maxHeartbeats 4000000 in
theorem span_any (A B : Option Addr) (c d : Nat) (C : List Int) (R : List Row) (w : World) (hA : RD iv w A C) (hB : Rws w B R) (hR : R.length ≤ 9223372036854775807) :
    Calls Try.prog 12 #[.slice A C.length c, .slice B R.length d] w fun e w' => e = .returned (.tuple #[.int .i64 (if ck C (lls R) = 0 then span C (lls R) else 0), .int .i64 (ck C (lls R))]) ∧ Below w.heap.size w w' := by
  by_cases h0 : ck C (lls R) = 0
  · have q0 : (ck C (lls R) != 0) = false := by simpa using h0
    have FT := Lib.hid (fit_of h0)
    rw [if_pos h0]
    have E0 := Lib.hid h0
    clear h0
    go_enter Try.func12, Try.ntmps12
    go_wp2_with (go_at_call 14; refine (check_any A B c d C R _ hA hB hR).mono ?_; rintro e w1 ⟨rfl, k1⟩)
    have HA := Lib.hid (hA.below k1)
    have HB := Lib.hid (hB.below k1)
    have K1 := Lib.hid k1
    clear hA hB k1 q0
    go_loop [7, 21] (fun m i => ∃ r : Nat, r ≤ R.length ∧ i = .int .i64 r ∧ m = .int .i64 (gmax ((sums C (lls R)).take r))) (fun _ i => R.length - (intOf i).toNat)
    case atStart => exact ⟨0, Nat.zero_le _, rfl, by simp [gmax]⟩
    case round =>
      obtain ⟨r, hr, rfl, rfl⟩ := hrel
      by_cases hlt : r < R.length
      · obtain ⟨a, rfl, hab, hac⟩ := HB.out.a.at hlt
        have hrow := HB.out.r R[r] (List.getElem_mem hlt)
        have G : Hid (gmax ((sums C (lls R)).take (r + 1)) = max (gmax ((sums C (lls R)).take r)) (psum C R[r].L)) := Lib.hid (by rw [gmax_take (by simp [sums, lls]; exact hlt)]; simp [sums, lls])
        have I1 := Lib.hid (FT.out.i R[r] (List.getElem_mem hlt))
        have I2 := FT.out.l R[r] (List.getElem_mem hlt)
        generalize R[r] = row at *
        obtain ⟨ra, rc, rl⟩ := row
        have ROW := Lib.hid hrow.a
        simp only [Row.val] at hac ROW I1 I2 G
        generalize gmax ((sums C (lls R)).take r) = y at *
        clear hrow
        go_wp2
        go_loop [10, 27] (fun s i => ∃ k : Nat, k ≤ rl.length ∧ i = .int .i64 k ∧ s = .int .i64 (psum C (rl.take k))) (fun _ i => rl.length - (intOf i).toNat)
        case atStart => exact ⟨0, Nat.zero_le _, rfl, by simp [psum]⟩
        case round =>
          obtain ⟨k, hk, rfl, rfl⟩ := hrel
          have b1 := psum_bd FT.out.c (rl.take k)
          have b2 : (rl.take k).length ≤ 1000 := by simp; omega
          by_cases hlt2 : k < rl.length
          · obtain ⟨a2, rfl, hab2, hac2⟩ := ROW.out.at hlt2
            have hi := I1.out _ (List.getElem_mem hlt2)
            obtain ⟨a3, rfl, hab3, hac3⟩ := costs_at HA.out (show rl[k].toNat < C.length by omega)
            have b3 := getD_bd FT.out.c rl[k].toNat
            have S1 := Lib.hid (psum_take (C := C) hlt2)
            generalize rl[k] = x at *
            obtain ⟨j, rfl⟩ : ∃ j : Nat, x = j := ⟨x.toNat, by omega⟩
            simp only [Int.toNat_natCast] at hac3 b3 S1
            generalize C.getD j 0 = v at *
            generalize psum C (rl.take k) = z at *
            go_wp2
            go_round
            case rel => exact ⟨k + 1, by omega, by go_num, by rw [S1.out]⟩
            case measure => simp [intOf]; omega
          · have e : Hid (psum C (rl.take k) = psum C rl) := Lib.hid (by rw [List.take_of_length_le (by omega)])
            rw [e.out]
            rw [e.out] at b1
            generalize psum C rl = z at *
            go_wp2
            go_round
            case rel => exact ⟨r + 1, by omega, by go_num, by rw [G.out, mx_if]⟩
            case measure => simp [intOf]; omega
      · have e : Hid (gmax ((sums C (lls R)).take r) = span C (lls R)) := Lib.hid (by unfold span; rw [List.take_of_length_le (by simp [sums, lls]; omega)])
        rw [e.out]
        go_wp2
        go_ret2
        exact ⟨by rw [E0.out]; rfl, K1.out⟩
  · have q0 : (ck C (lls R) != 0) = true := by simpa using h0
    rw [if_neg h0]
    clear h0
    go_enter Try.func12, Try.ntmps12
    go_wp2_with (go_at_call 14; refine (check_any A B c d C R _ hA hB hR).mono ?_; rintro e w1 ⟨rfl, k1⟩)
    go_ret2
    exact ⟨rfl, k1⟩

/-- A row of numbers of the call's own. -/
def OwnPost (L : List Int) (w : World) (e : Ending) (w' : World) : Prop := ∃ v, e = .returned v ∧ OT w' w.heap.size v L ∧ Below w.heap.size w w'
theorem ot_below {W w w' : World} {v : Value} {L : List Int} (hb : Below W.heap.size W w) (ho : OT w W.heap.size v L) (hg : w.grownBy w' v.ownBlock) : Below W.heap.size W w' :=
  hb.grown hg hb.size fun k hk => (World.ownsRow.lt ho k hk).1
set_option maxRecDepth 100000 in
set_option maxHeartbeats 4000000 in
theorem rsums_any (A B : Option Addr) (c d : Nat) (C : List Int) (R : List Row) (w : World) (hA : RD iv w A C) (hB : Rws w B R) (hR : R.length ≤ 1000) (hF : Fit C R) :
    Calls Try.prog 26 #[.slice A C.length c, .slice B R.length d] w (OwnPost (sums C (lls R)) w) := by
  have FT := Lib.hid hF
  have HA := Lib.hid hA
  have HB := Lib.hid hB
  have hsl : (sums C (lls R)).length = R.length := by simp [sums, lls]
  have HSL := Lib.hid hsl
  clear hA hB hF hsl
  go_enter Try.func26, Try.ntmps26
  go_wp2
  go_loopw [5, 6] (fun v i wr => ∃ r : Nat, r ≤ R.length ∧ i = .int .i64 r ∧ Hid (OT wr w.heap.size v ((sums C (lls R)).take r)) ∧ Hid (Below w.heap.size w wr)) (fun _ i _ => R.length - (intOf i).toNat)
  case atStart => exact ⟨0, Nat.zero_le _, rfl, Lib.hid (ot_empty _ (Nat.le_refl _)), Lib.hid ((Below.refl _ _).alloc (Nat.le_refl _) _)⟩
  case round =>
    obtain ⟨r, hr, rfl, HO, HBE⟩ := hrel
    have HB2 := HB.out.below HBE.out
    have HA2 := Lib.hid (HA.out.below HBE.out)
    by_cases hlt : r < R.length
    · obtain ⟨a, rfl, hab, hac⟩ := HB2.a.at hlt
      have hrow := HB2.r R[r] (List.getElem_mem hlt)
      have G : Hid ((sums C (lls R)).take (r + 1) = (sums C (lls R)).take r ++ [psum C R[r].L]) := Lib.hid (by rw [List.take_succ_eq_append_getElem (by rw [HSL.out]; exact hlt)]; simp [sums, lls])
      have I1 := Lib.hid (FT.out.i R[r] (List.getElem_mem hlt))
      have I2 := FT.out.l R[r] (List.getElem_mem hlt)
      generalize R[r] = row at *
      obtain ⟨ra, rc, rl⟩ := row
      have ROW := Lib.hid hrow.a
      simp only [Row.val] at hac ROW I1 I2 G
      clear hrow HB2
      go_wp2
      go_loop [7, 8] (fun s i => ∃ k : Nat, k ≤ rl.length ∧ i = .int .i64 k ∧ s = .int .i64 (psum C (rl.take k))) (fun _ i => rl.length - (intOf i).toNat)
      case atStart => exact ⟨0, Nat.zero_le _, rfl, by simp [psum]⟩
      case round =>
        obtain ⟨k, hk, rfl, rfl⟩ := hrel
        have b1 := psum_bd FT.out.c (rl.take k)
        have b2 : (rl.take k).length ≤ 1000 := by simp; omega
        by_cases hlt2 : k < rl.length
        · obtain ⟨a2, rfl, hab2, hac2⟩ := ROW.out.at hlt2
          have hi := I1.out _ (List.getElem_mem hlt2)
          obtain ⟨a3, rfl, hab3, hac3⟩ := costs_at HA2.out (show rl[k].toNat < C.length by omega)
          have b3 := getD_bd FT.out.c rl[k].toNat
          have S1 := Lib.hid (psum_take (C := C) hlt2)
          generalize rl[k] = x at *
          obtain ⟨j, rfl⟩ : ∃ j : Nat, x = j := ⟨x.toNat, by omega⟩
          simp only [Int.toNat_natCast] at hac3 b3 S1
          generalize C.getD j 0 = v at *
          generalize psum C (rl.take k) = z at *
          go_wp2
          go_round
          case rel => exact ⟨k + 1, by omega, by go_num, by rw [S1.out]⟩
          case measure => simp [intOf]; omega
        · have e : Hid (psum C (rl.take k) = psum C rl) := Lib.hid (by rw [List.take_of_length_le (by omega)])
          rw [e.out]
          rw [e.out] at b1
          generalize psum C rl = z at *
          go_wp2_with (at_builtin; refine wpList_app _ rfl _ _ rfl w.heap.size rfl (HO.out.alloc _) (M := [z]) (m := 1) (c := 1) rfl rfl (rd_one _ _ _) (by have := HSL.out; simp; omega) (by have := HBE.out.size; simp; omega) ?_; intro v' w1 hown1 hg1 _)
          have HO1 := Lib.hid hown1
          have HG1 := Lib.hid (ot_below (HBE.out.alloc HBE.out.size _) (HO.out.alloc _) hg1)
          clear hown1 hg1
          go_wp2_with fail
          go_roundw
          case rel => exact ⟨r + 1, by omega, by go_num, Lib.hid (by rw [G.out]; exact HO1.out), HG1⟩
          case measure => simp [intOf]; omega
    · go_wp2
      go_ret
      refine ⟨_, rfl, ?_, HBE.out⟩
      have h := HO.out
      rw [List.take_of_length_le (by rw [HSL.out]; omega)] at h
      exact h

set_option maxRecDepth 100000 in
set_option maxHeartbeats 4000000 in
theorem rspan_any (A B : Option Addr) (c d : Nat) (C : List Int) (R : List Row) (w : World) (hA : RD iv w A C) (hB : Rws w B R) (hR : R.length ≤ 1000) :
    Calls Try.prog 13 #[.slice A C.length c, .slice B R.length d] w fun e w' => e = .returned (.tuple #[.int .i64 (if ck C (lls R) = 0 then span C (lls R) else 0), .int .i64 (ck C (lls R))]) ∧ Below w.heap.size w w' := by
  by_cases h0 : ck C (lls R) = 0
  · have q0 : (ck C (lls R) != 0) = false := by simpa using h0
    have FT := Lib.hid (fit_of h0)
    rw [if_pos h0]
    have E0 := Lib.hid h0
    clear h0
    go_enter Try.func13, Try.ntmps13
    go_wp2_with fail
    refine (rcheck_any A B c d C R _ hA hB (by omega)).mono ?_
    rintro e w1 ⟨rfl, k1⟩
    go_wp2_with fail
    refine (rsums_any A B c d C R _ (hA.below k1) (hB.below k1) hR FT.out).mono ?_
    rintro e w2 ⟨v, rfl, ho, k2⟩
    obtain ⟨A2, c2, rfl, hc2, r2, -⟩ := ho.form
    have K2 := Lib.hid (k1.trans (k2.mono k1.size))
    clear k1 k2 ho
    go_wp2_with fail
    refine (greatest_any A2 c2 (sums C (lls R)) _ r2 (by simp [sums, lls]; omega)).mono ?_
    rintro e w3 ⟨rfl, rfl⟩
    go_wp2_with fail
    go_ret2
    exact ⟨by rw [E0.out]; rfl, K2.out⟩
  · have q0 : (ck C (lls R) != 0) = true := by simpa using h0
    rw [if_neg h0]
    clear h0
    go_enter Try.func13, Try.ntmps13
    go_wp2_with (go_at_call 15; refine (rcheck_any A B c d C R _ hA hB (by omega)).mono ?_; rintro e w1 ⟨rfl, k1⟩)
    go_ret2
    exact ⟨rfl, k1⟩

theorem take_eq_of_step {L M : List Int} {k : Nat} (hk : k < L.length) (hm : k < M.length) (h : L.take k = M.take k) (e : L[k] = M[k]) : L.take (k + 1) = M.take (k + 1) := by
  rw [List.take_succ_eq_append_getElem hk, List.take_succ_eq_append_getElem hm, h, e]
set_option maxHeartbeats 1000000 in
theorem sameInts_any (A B : Option Addr) (c d : Nat) (L M : List Int) (w : World) (hA : RD iv w A L) (hB : RD iv w B M) (hl : L.length ≤ 9223372036854775807) :
    Calls Try.prog 24 #[.slice A L.length c, .slice B M.length d] w fun e w' => e = .returned (.bool (decide (L = M))) ∧ ∃ n, w' = w.drewN n := by
  by_cases hlen : L.length = M.length
  · have hne : ((L.length : Int) != (M.length : Int)) = false := by simp [hlen]
    have HL := Lib.hid hlen
    clear hlen
    go_enter Try.func24, Try.ntmps24
    go_wp2
    go_loopw [5] (fun i wr => ∃ k n : Nat, k ≤ L.length ∧ i = .int .i64 k ∧ Hid (L.take k = M.take k) ∧ wr = w.drewN n) (fun i _ => L.length - (intOf i).toNat)
    case atStart => exact ⟨0, 0, Nat.zero_le _, rfl, by simp [Hid], rfl⟩
    case round =>
      obtain ⟨k, n, hk, rfl, ht, rfl⟩ := hrel
      by_cases hlt : k < L.length
      · have hltm : k < M.length := by have := HL.out; omega
        obtain ⟨a, rfl, hab, hac⟩ := hA.at hlt
        obtain ⟨b, rfl, hbb, hbc⟩ := hB.at hltm
        by_cases e : L[k] = M[k]
        · have HE := Lib.hid (take_eq_of_step hlt hltm ht.out e)
          have he : (L[k] != M[k]) = false := by simp [e]
          clear e
          generalize L[k] = x at *
          generalize M[k] = y at *
          go_wp2
          go_quiet (fail)
          go_wp2
          go_roundw
          case rel => exact ⟨k + 1, _, by omega, by go_num, HE, rfl⟩
          case measure => simp [intOf]; omega
        · have he : (L[k] != M[k]) = true := by simpa using e
          have hd : decide (L = M) = false := by
            simp
            rintro rfl
            exact e rfl
          have HD := Lib.hid hd
          clear e hd
          generalize L[k] = x at *
          generalize M[k] = y at *
          go_wp2
          go_quiet (fail)
          go_wp2
          go_ret
          exact ⟨by rw [HD.out]; rfl, _, World.drewN_drewN _ _ _⟩
      · go_wp2
        go_ret
        have := HL.out
        refine ⟨?_, n, rfl⟩
        have h := ht.out
        rw [List.take_of_length_le (by omega), List.take_of_length_le (by omega)] at h
        simp [h]
  · have hne : ((L.length : Int) != (M.length : Int)) = true := by simp; omega
    have hd : decide (L = M) = false := by
      simp
      intro e
      exact hlen (by rw [e])
    rw [hd]
    clear hlen hd
    go_enter Try.func24, Try.ntmps24
    go_wp2
    go_ret
    exact ⟨rfl, 0, rfl⟩

end Go.Proofs.Ytejipflkdigbbaa
