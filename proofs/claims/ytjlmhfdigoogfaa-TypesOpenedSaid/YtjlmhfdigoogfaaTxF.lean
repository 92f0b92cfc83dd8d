/- Walks: readType (76) is reading. -/
import Derived.Test.YtjlmhfdigoogfaaTxE
namespace Go.Proofs.Ytjlmhfdigoogfaa
open Go.RowKit

theorem sz3 (t : PT) : (PT.mk 3 0 [t]).size = 1 + t.size := by simp [PT.size]
theorem sz4 (t u : PT) : (PT.mk 4 0 [t, u]).size = 1 + (t.size + u.size) := by simp [PT.size]
theorem szv (n : Int) : (vr n).size = 1 := by simp [vr, PT.size]
theorem rdm_some {c : Int} {o : Option (PT × T)} {t : PT} {r : T} (h : rdm c o = some (t, r)) : o = some (t, r) ∧ c + t.size ≤ 200 := by
  unfold rdm at h
  split at h
  · split at h
    · cases h
      exact ⟨rfl, by assumption⟩
    · cases h
  · cases h
theorem rdm_ok {c : Int} {t : PT} {r : T} (h : c + t.size ≤ 200) : rdm c (some (t, r)) = some (t, r) := by
  unfold rdm
  simp only
  rw [if_pos h]
theorem rdm_no {c : Int} {t : PT} {r : T} (h : 200 < c + t.size) : rdm c (some (t, r)) = none := by
  unfold rdm
  simp only
  rw [if_neg (by omega)]
theorem rtp_no {rp : Nat} {c : Int} {o : Option (PT × T)} {w : World} (h : rdm c o = none) {e : Ending} {w' : World} (k : RTno rp w e w') : RTP rp c o w e w' := by
  refine ⟨k.2, ?_⟩
  rw [h]
  exact k.1
theorem rtp_ok {rp : Nat} {c c' : Int} {o : Option (PT × T)} {w : World} {t : PT} {r : T} (h : rdm c o = some (t, r)) (hc : c' = c + t.size) {e : Ending} {w' : World} (k : RTok rp t r c' w e w') : RTP rp c o w e w' := by
  subst hc
  refine ⟨k.1, ?_⟩
  rw [h]
  exact k.2
theorem rtp_both {rp : Nat} {c : Int} {o : Option (PT × T)} {w : World} {e : Ending} {w' : World} (k : RTP rp c o w e w') : (∀ t r, rdm c o = some (t, r) → RTok rp t r (c + t.size) w e w') ∧ (rdm c o = none → RTno rp w e w') := by
  refine ⟨fun t r h => ?_, fun h => ?_⟩
  · have := k.2
    rw [h] at this
    exact ⟨k.1, this⟩
  · have := k.2
    rw [h] at this
    exact ⟨this, k.1⟩
theorem rtok_flat {rp : Nat} {s : T} {c c' k n : Int} {w w' : World} {e : Ending} (h : e = .returned (.agg #[iv k, iv n, .slice none 0 0]) ∧ w.grownBy w' (some rp) ∧ w'.heap[rp]? = some (.cells #[tv s, iv c] 106 (0, 0))) (hc : c' = c) : RTok rp (.mk k n []) s c' w e w' := by
  subst hc
  exact ⟨h.2.1, _, h.1, TyR.flat _ _ _ _, h.2.2⟩
theorem readType_any (rp : Nat) : ∀ (f : Nat) (s : T) (c : Int) (w : World), s.length < f → w.heap[rp]? = some (.cells #[tv s, iv c] 106 (0, 0)) → 0 ≤ c → c ≤ 200 → Calls Try.prog 76 #[.pointer (some ⟨rp, 0, none⟩)] w (RTP rp c (rd f s) w) := by
  intro f
  induction f with
  | zero => intro s c w h; omega
  | succ f ih =>
    intro s c w hf hr h0 hc
    by_cases hc2 : c = 200
    · refine (rt_limit s rp c w hr h0 hc2).mono fun e w' h => rtp_no ?_ h
      cases ho : rd (f + 1) s with
      | none => rfl
      | some p =>
        obtain ⟨t, r⟩ := p
        exact rdm_no (by have := size_pos t; omega)
    have hlt : c < 200 := by omega
    have IH : ∀ q : T, q.length < s.length → ∀ c', 0 ≤ c' → c' ≤ 200 → ∀ V : World, V.heap[rp]? = some (.cells #[tv q, iv c'] 106 (0, 0)) → Calls Try.prog 76 #[.pointer (some ⟨rp, 0, none⟩)] V (RTP rp c' (rd f q) V) := fun q hq c' h1 h2 V hV => ih q c' V (by omega) hV h1 h2
    have NO : ∀ q : T, q.length < s.length → ∀ c', 0 ≤ c' → c' ≤ 200 → rdm c' (rd f q) = none → Hid (∀ V : World, V.heap[rp]? = some (.cells #[tv q, iv c'] 106 (0, 0)) → Calls Try.prog 76 #[.pointer (some ⟨rp, 0, none⟩)] V (RTno rp V)) := fun q hq c' h1 h2 hn => Lib.hid fun V hV => (IH q hq c' h1 h2 V hV).mono fun e w' k => (rtp_both k).2 hn
    have OK : ∀ q : T, q.length < s.length → ∀ c', 0 ≤ c' → c' ≤ 200 → ∀ t r, rdm c' (rd f q) = some (t, r) → Hid (∀ V : World, V.heap[rp]? = some (.cells #[tv q, iv c'] 106 (0, 0)) → Calls Try.prog 76 #[.pointer (some ⟨rp, 0, none⟩)] V (RTok rp t r (c' + t.size) V)) := fun q hq c' h1 h2 t r hn => Lib.hid fun V hV => (IH q hq c' h1 h2 V hV).mono fun e w' k => (rtp_both k).1 t r hn
    clear ih IH
    unfold rd
    cases e1 : cut sInt s with
    | some r =>
      simp only
      exact (rt_int s rp c w hr h0 hlt r (Lib.hid e1)).mono fun e w' h => rtp_ok (rdm_ok (t := .mk 1 0 []) (r := r) (by simp [PT.size]; omega)) rfl (rtok_flat h (by simp [PT.size]))
    | none =>
    simp only
    cases e2 : cut sBool s with
    | some r =>
      simp only
      exact (rt_bool s rp c w hr h0 hlt r (Lib.hid e1) (Lib.hid e2)).mono fun e w' h => rtp_ok (rdm_ok (t := .mk 2 0 []) (r := r) (by simp [PT.size]; omega)) rfl (rtok_flat h (by simp [PT.size]))
    | none =>
    simp only
    cases e3 : cut sList s with
    | some r =>
      simp only
      have hl := cut_len e3
      cases h1 : rdm (c + 1) (rd f r) with
      | none =>
        refine (rl_1 s rp c w hr h0 hlt r (Lib.hid e1) (Lib.hid e2) (Lib.hid e3) (NO r (by simp at hl; omega) _ (by omega) (by omega) h1)).mono fun e w' h => rtp_no ?_ h
        cases ho : rd f r with
        | none => rfl
        | some p =>
          obtain ⟨t, r1⟩ := p
          simp only
          cases e5 : cut [41] r1 with
          | none => rfl
          | some r2 =>
            simp only
            refine rdm_no ?_
            rw [ho] at h1
            have : ¬ (c + 1 + t.size ≤ 200) := fun h => by rw [rdm_ok h] at h1; cases h1
            rw [sz3]; omega
      | some p =>
        obtain ⟨t, r1⟩ := p
        obtain ⟨ho, hz⟩ := rdm_some h1
        have O1 := OK r (by simp at hl; omega) _ (by omega) (by omega) t r1 h1
        rw [ho]
        simp only
        cases e5 : cut [41] r1 with
        | none => exact (rl_2 s rp c w hr h0 hlt r (Lib.hid e1) (Lib.hid e2) (Lib.hid e3) t r1 _ O1 (Lib.hid e5)).mono fun e w' h => rtp_no rfl h
        | some r2 =>
          refine (rl_3 s rp c w hr h0 hlt r (Lib.hid e1) (Lib.hid e2) (Lib.hid e3) t r1 _ O1 r2 (Lib.hid e5)).mono fun e w' h => rtp_ok (rdm_ok ?_) ?_ h
          · rw [sz3]; omega
          · rw [sz3]; omega
    | none =>
    simp only
    cases e4 : cut [40] s with
    | some r =>
      simp only
      have hl := cut_len e4
      cases h1 : rdm (c + 1) (rd f r) with
      | none =>
        refine (rf_1 s rp c w hr h0 hlt r (Lib.hid e1) (Lib.hid e2) (Lib.hid e3) (Lib.hid e4) (NO r (by simp at hl; omega) _ (by omega) (by omega) h1)).mono fun e w' h => rtp_no ?_ h
        cases ho : rd f r with
        | none => rfl
        | some p =>
          obtain ⟨t, r1⟩ := p
          simp only
          cases e5 : cut sTo r1 with
          | none => rfl
          | some r2 =>
            simp only
            cases ho2 : rd f r2 with
            | none => rfl
            | some p =>
              obtain ⟨u, r3⟩ := p
              simp only
              cases e6 : cut [41] r3 with
              | none => rfl
              | some r4 =>
                simp only
                refine rdm_no ?_
                rw [ho] at h1
                have : ¬ (c + 1 + t.size ≤ 200) := fun h => by rw [rdm_ok h] at h1; cases h1
                rw [sz4]; omega
      | some p =>
        obtain ⟨t, r1⟩ := p
        obtain ⟨ho, hz⟩ := rdm_some h1
        have O1 := OK r (by simp at hl; omega) _ (by omega) (by omega) t r1 h1
        have hs1 : r1.length ≤ r.length := by rw [(rd_sound f r ho).1]; simp
        rw [ho]
        simp only
        cases e5 : cut sTo r1 with
        | none => exact (rf_2 s rp c w hr h0 hlt r (Lib.hid e1) (Lib.hid e2) (Lib.hid e3) (Lib.hid e4) t r1 _ O1 (Lib.hid e5)).mono fun e w' h => rtp_no rfl h
        | some r2 =>
          simp only
          have hl2 := cut_len e5
          have l2 : r2.length < s.length := by simp at hl hl2; omega
          cases h2 : rdm (c + 1 + t.size) (rd f r2) with
          | none =>
            refine (rf_3 s rp c w hr h0 hlt r (Lib.hid e1) (Lib.hid e2) (Lib.hid e3) (Lib.hid e4) t r1 _ O1 r2 (Lib.hid e5) (NO r2 l2 _ (by omega) (by omega) h2)).mono fun e w' h => rtp_no ?_ h
            cases ho2 : rd f r2 with
            | none => rfl
            | some p =>
              obtain ⟨u, r3⟩ := p
              simp only
              cases e6 : cut [41] r3 with
              | none => rfl
              | some r4 =>
                simp only
                refine rdm_no ?_
                rw [ho2] at h2
                have : ¬ (c + 1 + t.size + u.size ≤ 200) := fun h => by rw [rdm_ok h] at h2; cases h2
                rw [sz4]; omega
          | some p =>
            obtain ⟨u, r3⟩ := p
            obtain ⟨ho2, hz2⟩ := rdm_some h2
            have O2 := OK r2 l2 _ (by omega) (by omega) u r3 h2
            rw [ho2]
            simp only
            cases e6 : cut [41] r3 with
            | none => exact (rf_4 s rp c w hr h0 hlt r (Lib.hid e1) (Lib.hid e2) (Lib.hid e3) (Lib.hid e4) t r1 _ O1 r2 (Lib.hid e5) u r3 _ O2 (Lib.hid e6)).mono fun e w' h => rtp_no rfl h
            | some r4 =>
              refine (rf_5 s rp c w hr h0 hlt r (Lib.hid e1) (Lib.hid e2) (Lib.hid e3) (Lib.hid e4) t r1 _ O1 r2 (Lib.hid e5) u r3 _ O2 r4 (Lib.hid e6)).mono fun e w' h => rtp_ok (rdm_ok ?_) ?_ h
              · rw [sz4]; omega
              · rw [sz4]; omega
    | none =>
    simp only
    cases s with
    | nil => exact (rt_empty rp c w hr h0 hlt (Lib.hid e1) (Lib.hid e2) (Lib.hid e3) (Lib.hid e4)).mono fun e w' h => rtp_no rfl h
    | cons ch q =>
      simp only
      by_cases hlo : 97 ≤ ch
      · by_cases hhi : ch ≤ 122
        · rw [if_pos ⟨hlo, hhi⟩]
          have g1 := UInt8.le_iff_toNat_le.1 hlo
          have g2 := UInt8.le_iff_toNat_le.1 hhi
          exact (rt_var rp c w ch q hr h0 hlt (Lib.hid e1) (Lib.hid e2) (Lib.hid e3) (Lib.hid e4) g1 g2).mono fun e w' h => rtp_ok (rdm_ok (t := vr _) (r := q) (by rw [szv]; omega)) rfl (rtok_flat h (by rw [szv]; rfl))
        · rw [if_neg (fun h => hhi h.2)]
          refine (rt_high rp c w ch q hr h0 hlt (Lib.hid e1) (Lib.hid e2) (Lib.hid e3) (Lib.hid e4) ?_).mono fun e w' h => rtp_no rfl h
          have : ¬ (ch.toNat ≤ 122) := fun h => hhi (UInt8.le_iff_toNat_le.2 h)
          omega
      · rw [if_neg (fun h => hlo h.1)]
        refine (rt_low rp c w ch q hr h0 hlt (Lib.hid e1) (Lib.hid e2) (Lib.hid e3) (Lib.hid e4) ?_).mono fun e w' h => rtp_no rfl h
        have : ¬ (97 ≤ ch.toNat) := fun h => hlo (UInt8.le_iff_toNat_le.2 h)
        omega
end Go.Proofs.Ytjlmhfdigoogfaa
