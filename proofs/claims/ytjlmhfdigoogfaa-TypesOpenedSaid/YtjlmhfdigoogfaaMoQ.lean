/- Plain: the reference's More answers as More. -/
import Derived.Test.YtjlmhfdigoogfaaMoU
namespace Go.Proofs.Ytjlmhfdigoogfaa
open Go.RowKit

/-- What the reference's More answers. -/
def rmoreP (n : Int) (t : PT) (m : Int) (u : PT) : Bool := sval n t && sval m u && (mt n t (u.rep fun i => vr (opn m 1000000 i)) []).isSome
theorem opn_in {m i : Int} (hm : 0 ≤ m ∧ m ≤ 200) (hi : 0 ≤ i ∧ i ≤ 999999) : opn m 1000000 i = if i < m then 1000000 + i else i - m := by
  unfold opn
  split
  · exact IntWalk.i64_in _ (by omega)
  · exact IntWalk.i64_in _ (by omega)
theorem opn_ok (m : Int) (u : PT) : (u.rep fun i => vr (opn m 1000000 i)).rep vr = u.rep fun i => vr (opn m 1000000 i) := by
  rw [rep_comp]
  exact rep_congr fun i _ => rep_vr _ _
theorem rmore_eq (n : Int) (t : PT) (m : Int) (u : PT) : rmoreP n t m u = moreP n t m u := by
  by_cases ht : sval n t = true
  · by_cases hu : sval m u = true
    · have hn := sval_bd ht
      have hm := sval_bd hu
      have ct := (ck_cke (sval_ck ht)).1
      have cu := (ck_cke (sval_ck hu)).1
      rw [Bool.eq_iff_iff, more_iff ht hu]
      unfold rmoreP
      rw [ht, hu, Bool.true_and, Bool.true_and, mt_iff (by omega) ct (opn_ok m u)]
      constructor
      · rintro ⟨σ, h⟩
        let ρ : Int → PT := fun j => vr (if j < 1000000 then j else j - 1000000 - m)
        refine ⟨fun v => (σ v).rep ρ, ?_⟩
        have h1 : t.rep (ext n fun v => (σ v).rep ρ) = (t.rep (ext n σ)).rep ρ := by
          rw [rep_comp]
          refine rep_congr fun i hi => ?_
          have := vin_range ct hi
          unfold ext
          split
          · rw [rep_vr]
            show _ = vr (if _ then _ else _)
            rw [if_pos (by omega)]
          · rfl
        rw [h1, h, rep_comp]
        refine rep_congr fun i hi => ?_
        have hr := vin_range cu hi
        rw [rep_vr, opn_in hm hr]
        show vr (if _ then _ else _) = vr (i - m)
        by_cases h2 : i < m
        · rw [if_pos h2, if_neg (by omega), show 1000000 + i - 1000000 - m = i - m by omega]
        · rw [if_neg h2, if_pos (by omega)]
      · rintro ⟨σ, h⟩
        let ρ : Int → PT := fun j => vr (if 0 ≤ j then j else 1000000 + (j + m))
        refine ⟨fun v => (σ v).rep ρ, ?_⟩
        have h1 : t.rep (ext n fun v => (σ v).rep ρ) = (t.rep (ext n σ)).rep ρ := by
          rw [rep_comp]
          refine rep_congr fun i hi => ?_
          have := vin_range ct hi
          unfold ext
          split
          · rw [rep_vr]
            show _ = vr (if _ then _ else _)
            rw [if_pos (by omega)]
          · rfl
        rw [h1, h, rep_comp]
        refine rep_congr fun i hi => ?_
        have hr := vin_range cu hi
        rw [opn_in hm hr]
        unfold dn
        rw [rep_vr]
        show vr (if _ then _ else _) = vr _
        by_cases h2 : i < m
        · rw [if_pos h2, if_neg (by omega), show 1000000 + (i - m + m) = 1000000 + i by omega]
        · rw [if_neg h2, if_pos (by omega)]
    · have h2 : sval m u = false := by simpa using hu
      unfold rmoreP moreP
      rw [h2]
      simp
  · have h2 : sval n t = false := by simpa using ht
    unfold rmoreP moreP
    rw [h2]
    simp
end Go.Proofs.Ytjlmhfdigoogfaa
