/- great, for sums of whatever size. -/
import Derived.Test.YtgenloemohcpcaaAwake
namespace Go.Proofs.Ytgenloemohcpcaa
open Go.RowKit

/-- A sum in memory, of whatever size. -/
structure SR.Rd0 (w : World) (s : SR) : Prop where
  a : RD w s.A s.L
  b : RD w s.B s.M
  ca : s.L.length ≤ s.c
  cb : s.M.length ≤ s.d
  la : s.L.length ≤ 9223372036854775807
  lb : s.M.length ≤ 9223372036854775807
theorem SR.Rd0.below {w w' : World} {s : SR} (h : s.Rd0 w) (hb : Below w.heap.size w w') : s.Rd0 w' := ⟨h.a.below hb, h.b.below hb, h.ca, h.cb, h.la, h.lb⟩
theorem SR.Rd0.small {w : World} {s : SR} (h : s.Rd0 w) (hg : gr s.L s.M = false) : s.Rd w := by
  have z := gr_false.1 hg
  exact ⟨h.a, h.b, h.ca, h.cb, by omega, by omega⟩

set_option maxHeartbeats 1000000 in
theorem great0_any (S : List SR) (b cap : Nat) (w : World) (hb : b < w.heap.size) (hS : ∀ s ∈ S, s.Rd0 w) (hn : S.length ≤ 1000)
    (h0 : ∀ j (h : j < S.length), w.cell? ⟨b, j * 2, none⟩ = some (.slice S[j].A S[j].L.length S[j].c))
    (h1 : ∀ j (h : j < S.length), w.cell? ⟨b, j * 2 + 1, none⟩ = some (.slice S[j].B S[j].M.length S[j].d)) :
    Calls Try.prog 10 #[.slice (some ⟨b, 0, none⟩) S.length cap] w fun e w' => e = .returned (.bool (grs S)) ∧ Below w.heap.size w w' := by
  go_enter Try.func10, Try.ntmps10
  go_wp2_with fail
  go_loopw [4, 7] (fun _ i wr => ∃ k : Nat, k ≤ S.length ∧ i = .int .i64 k ∧ Hid (∀ s ∈ S.take k, gr s.L s.M = false) ∧ Below w.heap.size w wr) (fun _ i _ => S.length - (intOf i).toNat)
  case atStart => exact ⟨0, Nat.zero_le _, rfl, by simp [Hid], Below.refl _ _⟩
  case round =>
    obtain ⟨k, hk, rfl, ht, hbe⟩ := hrel
    by_cases hlt : k < S.length
    · have c0 := (hbe.cell (p := ⟨b, k * 2, none⟩) hb).trans (h0 k hlt)
      have c1 := (hbe.cell (p := ⟨b, k * 2 + 1, none⟩) hb).trans (h1 k hlt)
      have hr' := (hS S[k] (List.getElem_mem hlt)).below hbe
      have HB := Lib.hid hbe
      have HM : S[k] ∈ S := List.getElem_mem hlt
      have HT : ∀ z ∈ S.take (k + 1), z ∈ S.take k ∨ z = S[k] := by
        intro z hz
        rw [List.take_succ_eq_append_getElem hlt, List.mem_append, List.mem_singleton] at hz
        exact hz
      have HM := Lib.hid HM
      have HT := Lib.hid HT
      clear h0 h1 hS
      generalize S[k] = sk at *
      obtain ⟨sA, sB, sc, sd, sL, sM⟩ := sk
      obtain ⟨ra, rb, -, -, rl, rm⟩ := hr'
      simp only at ra rb rl rm c0 c1
      by_cases hg : gr sL sM = true
      · have hgs : grs S = true := by
          unfold grs
          rw [List.any_eq_true]
          exact ⟨_, HM.out, hg⟩
        have HG := Lib.hid hgs
        have HG' := Lib.hid hg
        clear hgs hg
        go_wp2_with fail
        refine (gr_any sA sB sc sd sL sM _ (ra.alloc _) (rb.alloc _) (by omega) (by omega)).mono ?_
        rintro e w' ⟨rfl, hb'⟩
        rw [HG'.out]
        go_wp2_with fail
        go_ret
        exact ⟨by rw [HG.out]; rfl, (HB.out.alloc HB.out.size _).trans (hb'.mono (by have := HB.out.size; simp; omega))⟩
      · have hg' : gr sL sM = false := by simpa using hg
        have HG' := Lib.hid hg'
        clear hg hg'
        go_wp2_with fail
        refine (gr_any sA sB sc sd sL sM _ (ra.alloc _) (rb.alloc _) (by omega) (by omega)).mono ?_
        rintro e w' ⟨rfl, hb'⟩
        rw [HG'.out]
        go_wp2_with fail
        go_roundw
        case rel =>
          refine ⟨k + 1, by omega, by go_num, ?_, (HB.out.alloc HB.out.size _).trans (hb'.mono (by have := HB.out.size; simp; omega))⟩
          intro z hz
          rcases HT.out z hz with hz | rfl
          · exact ht.out z hz
          · exact HG'.out
        case measure => simp [intOf]; omega
    · have hgs : grs S = false := by
        unfold grs
        rw [List.any_eq_false]
        have := ht.out
        rw [List.take_of_length_le (by omega)] at this
        intro s hs
        simp [this s hs]
      have HG := Lib.hid hgs
      clear hgs
      go_wp2_with fail
      go_ret
      exact ⟨by rw [HG.out]; rfl, hbe⟩
end Go.Proofs.Ytgenloemohcpcaa
