/- Plain: opened schemes, printed and parsed. -/
import Derived.Test.YtjlmhfdigoogfaaTxL
namespace Go.Proofs.Ytjlmhfdigoogfaa
open Go.RowKit

theorem parse_print {l : T} {m : Int} {t : PT} (h : psE l = ((m, t), 0)) : prE m t = (l, 0) := by
  unfold psE at h
  split at h
  · rename_i t' e
    split at h
    · rename_i hv
      simp only [Prod.mk.injEq, and_true] at h
      obtain ⟨rfl, rfl⟩ := h
      obtain ⟨h1, h2⟩ := rd_sound _ _ e
      have ha := (own_all hv).1 (by unfold clN; exact Int.le_refl _)
      unfold prE
      rw [if_neg (by simpa using sval_ck hv), if_neg (by rw [hv]; simp), if_pos]
      · rw [List.append_nil] at h1
        rw [← h1]
      · intro u hu
        refine ⟨ha u hu, ?_⟩
        rw [mem_sn] at hu
        rcases hu with hu | hu
        · cases hu
        · have := h2.v u hu
          omega
    · simp at h
  · simp at h
/-- A scheme without free variables that was opened. -/
structure Op0 (n : Int) (t : PT) (next : Int) : Prop where
  c : ck t = 0
  v : sval n t = true
  l : ((sn [] t).length : Int) = n
  b : 0 ≤ next ∧ next ≤ 65535
theorem op0_of {n next m : Int} {t t2 : PT} (h : opE n t next = ((t2, m), 0)) (hl : ((vrs t).length : Int) = n) (hb : 0 ≤ next ∧ next ≤ 65535) : Op0 n t next ∧ t2 = (t.rep fun i => vr (opn n next i)) ∧ m = next + n := by
  unfold opE at h
  by_cases hc : ck t = 0
  · rw [if_neg (by simpa using hc)] at h
    by_cases hv : sval n t = false
    · rw [if_pos hv] at h
      simp at h
    · rw [if_neg hv, if_neg (by omega)] at h
      simp only [Prod.mk.injEq, and_true] at h
      refine ⟨⟨hc, by simpa using hv, ?_, hb⟩, h.1.symm, h.2.symm⟩
      unfold vrs at hl
      rw [if_pos hc, ascd_len] at hl
      exact hl
  · rw [if_pos hc] at h
    simp only [Prod.mk.injEq] at h
    exact absurd h.2 hc
theorem op0_rep {n next : Int} {t : PT} (h : Op0 n t next) : (t.rep fun i => vr (opn n next i)) = t.rep fun i => vr (next + i) := by
  have hb := sval_bd h.v
  have ha := (own_all h.v).1 (by rw [h.l]; exact Int.le_refl _)
  refine rep_congr fun i hi => ?_
  have h1 := ha i (by rw [mem_sn]; exact .inr hi)
  have h2 := vin_range (ck_cke h.c).1 hi
  have h3 := h.b
  unfold opn
  rw [if_pos h1, show wr64 (next + i) = next + i from IntWalk.i64_in _ (by omega)]
theorem op0_ck {n next : Int} {t : PT} (h : Op0 n t next) : ck (t.rep fun i => vr (next + i)) = 0 := by
  have hb := sval_bd h.v
  have ha := (own_all h.v).1 (by rw [h.l]; exact Int.le_refl _)
  have h3 := h.b
  refine ck_mk (good_rep (ck_cke h.c).1 fun u hu => good_vr ?_) (Nat.le_trans (size_ren _ t) (ck_cke h.c).2)
  have h1 := ha u (by rw [mem_sn]; exact .inr hu)
  have h2 := vin_range (ck_cke h.c).1 hu
  omega
theorem op0_inst {n next : Int} {t : PT} (h : Op0 n t next) : instP n t (t.rep fun i => vr (next + i)) = true := by
  refine (inst_iff h.v (op0_ck h)).2 ⟨fun i => vr (next + i), rep_congr fun i hi => ?_⟩
  have ha := (own_all h.v).1 (by rw [h.l]; exact Int.le_refl _)
  have h1 := ha i (by rw [mem_sn]; exact .inr hi)
  unfold ext
  rw [if_neg (by omega)]
theorem op0_close {n next : Int} {t : PT} (h : Op0 n t next) : clE [] (t.rep fun i => vr (next + i)) = ((n, t), 0) := by
  have hb := sval_bd h.v
  have ha := (own_all h.v).1 (by rw [h.l]; exact Int.le_refl _)
  obtain ⟨k, hk, hl⟩ := own_is h.v ha
  have hc := ck_cke h.c
  have e2 : sn [] (t.rep fun i => vr (next + i)) = (sn [] t).map (fun i => next + i) := by
    have h1 := sn_ren (f := fun i => next + i) (S := fun _ => True) (fun a b _ _ e => by omega) t [] hc.1 (by simp) (fun _ _ => trivial)
    simpa using h1
  rw [clE_nil, if_neg (by simpa using op0_ck h)]
  have e3 : clN (t.rep fun i => vr (next + i)) = n := by
    unfold clN
    rw [e2, List.length_map]
    exact h.l
  have e4 : clT (t.rep fun i => vr (next + i)) = t := by
    have hd := nodup_sn0 (t.rep fun i => vr (next + i))
    unfold clT
    rw [rep_comp]
    have e5 : t.rep vr = t := rep_id hc.1
    refine Eq.trans ?_ e5
    refine rep_congr fun i hi => ?_
    have hin : i ∈ sn [] t := by rw [mem_sn]; exact .inr hi
    rw [hl] at hin
    obtain ⟨j, hj, rfl⟩ := List.mem_map.1 hin
    rw [rep_vr]
    have : (sn [] (t.rep fun i => vr (next + i)))[j]? = some (next + (j : Int)) := by
      rw [e2, hl]
      simp at hj
      simp [hj]
    rw [cln_at hd this]
  rw [e3, e4]
theorem op0_print {n next : Int} {t : PT} (h : Op0 n t next) : (prE n t = (txt t, 0) ∧ psE (txt t) = ((n, t), 0)) ∨ (prE n t = ([], 2) ∧ 26 < n) := by
  have hc := ck_cke h.c
  have e3 : clN t = n := h.l
  unfold prE
  rw [if_neg (by simpa using h.c), if_neg (by rw [h.v]; simp)]
  by_cases ha : ∀ u ∈ sn [] t, u < n ∧ u < 26
  · left
    refine ⟨if_pos ha, ?_⟩
    have hlt : Lt t := ⟨hc.1, fun u hu => by have := (ha u (by rw [mem_sn]; exact .inr hu)).2; omega⟩
    have h1 := rd_txt t ((txt t).length + 1) [] hlt (Nat.le_trans (txt_pos t hlt) (Nat.le_succ _)) (.inl rfl)
    rw [List.append_nil] at h1
    unfold psE
    rw [h1]
    simp only
    rw [e3, if_pos h.v]
  · right
    refine ⟨if_neg ha, ?_⟩
    rw [← print_iff h.v] at ha
    have := h.l
    omega
end Go.Proofs.Ytjlmhfdigoogfaa
