/- Walks: read (77) is reading. -/
import Derived.Test.YtjlmhfdigoogfaaTxI
namespace Go.Proofs.Ytjlmhfdigoogfaa
open Go.RowKit

mutual
/-- How deep a type is. -/
def dep : PT → Nat
  | .mk _ _ s => deps s
def deps : List PT → Nat
  | [] => 0
  | x :: l => max (dep x + 1) (deps l)
end
theorem dep_0 (k v : Int) : dep (.mk k v []) = 0 := by simp [dep, deps]
theorem dep_3 (x : PT) : dep (.mk 3 0 [x]) = dep x + 1 := by simp [dep, deps]
theorem dep_4 (x y : PT) : dep (.mk 4 0 [x, y]) = max (dep x + 1) (dep y + 1) := by simp [dep, deps]
theorem dep_size (t : PT) : dep t + 1 ≤ t.size := by
  induction t using PT.ind with
  | h k v s ih =>
    rw [dep, size_eq]
    simp only [PT.sub]
    induction s with
    | nil => simp [deps]
    | cons x l ihl =>
      have h1 := ih x (by simp)
      have h2 := ihl fun y hy => ih y (by simp [hy])
      simp only [deps, psz_cons]
      omega
/-- What was read, where no type is deeper than 200. -/
def rdd (d : Int) (o : Option (PT × T)) : Option (PT × T) := match o with
  | some (t, r) => if d + dep t ≤ 200 then some (t, r) else none
  | none => none
theorem rdd_some {c : Int} {o : Option (PT × T)} {t : PT} {r : T} (h : rdd c o = some (t, r)) : o = some (t, r) ∧ c + dep t ≤ 200 := by
  unfold rdd at h
  split at h
  · split at h
    · cases h
      exact ⟨rfl, by assumption⟩
    · cases h
  · cases h
theorem rdd_ok {c : Int} {t : PT} {r : T} (h : c + dep t ≤ 200) : rdd c (some (t, r)) = some (t, r) := by
  unfold rdd
  simp only
  rw [if_pos h]
theorem rdd_no {c : Int} {t : PT} {r : T} (h : 200 < c + dep t) : rdd c (some (t, r)) = none := by
  unfold rdd
  simp only
  rw [if_neg (by omega)]
/-- What the reference's reading of a type leaves. -/
def RRP (c : Int) (o : Option (PT × T)) (w : World) (e : Ending) (w' : World) : Prop := match rdd c o with
  | some (t, _) => RRok t (txt t).length w e w'
  | none => RRno w e w'
theorem rrp_no {c : Int} {o : Option (PT × T)} {w : World} (h : rdd c o = none) {e : Ending} {w' : World} (k : RRno w e w') : RRP c o w e w' := by
  unfold RRP
  rw [h]
  exact k
theorem rrp_ok {c : Int} {o : Option (PT × T)} {w : World} {t : PT} {r : T} {n : Nat} (h : rdd c o = some (t, r)) (hn : n = (txt t).length) {e : Ending} {w' : World} (k : RRok t n w e w') : RRP c o w e w' := by
  subst hn
  unfold RRP
  rw [h]
  exact k
theorem rrp_both {c : Int} {o : Option (PT × T)} {w : World} {e : Ending} {w' : World} (k : RRP c o w e w') : (∀ t r, rdd c o = some (t, r) → RRok t (txt t).length w e w') ∧ (rdd c o = none → RRno w e w') := by
  unfold RRP at k
  refine ⟨fun t r h => ?_, fun h => ?_⟩
  · rw [h] at k; exact k
  · rw [h] at k; exact k
theorem drop_at {a b : T} {n : Nat} (h : a.length = n) : (a ++ b).drop n = b := by rw [← h]; simp
theorem rread_any : ∀ (f : Nat) (s : T) (c : Int) (w : World), s.length < f → s.length ≤ 1000000 → 0 ≤ c → c ≤ 201 → Calls Try.prog 77 #[tv s, iv c] w (RRP c (rd f s) w) := by
  intro f
  induction f with
  | zero => intro s c w h; omega
  | succ f ih =>
    intro s c w hf hs0 h0 hc
    by_cases hc2 : 200 < c
    · refine (rr_limit s c hc2 w).mono fun e w' h => rrp_no ?_ h
      cases ho : rd (f + 1) s with
      | none => rfl
      | some p =>
        obtain ⟨t, r⟩ := p
        exact rdd_no (by omega)
    have hlt : c ≤ 200 := by omega
    have NO : ∀ q : T, q.length < s.length → rdd (c + 1) (rd f q) = none → Hid (∀ V : World, Calls Try.prog 77 #[tv q, iv (c + 1)] V (RRno V)) := fun q hq hn => Lib.hid fun V => (ih q (c + 1) V (by omega) (by omega) (by omega) (by omega)).mono fun e w' k => (rrp_both k).2 hn
    have OK : ∀ q : T, q.length < s.length → ∀ t r, rdd (c + 1) (rd f q) = some (t, r) → Hid (∀ V : World, Calls Try.prog 77 #[tv q, iv (c + 1)] V (RRok t (txt t).length V)) := fun q hq t r hn => Lib.hid fun V => (ih q (c + 1) V (by omega) (by omega) (by omega) (by omega)).mono fun e w' k => (rrp_both k).1 t r hn
    clear ih
    unfold rd
    cases e1 : cut sInt s with
    | some r =>
      simp only
      exact (rr_int s c h0 hlt r (Lib.hid e1) w).mono fun e w' h => rrp_ok (rdd_ok (t := .mk 1 0 []) (r := r) (by rw [dep_0]; omega)) (by rw [txt_1]; rfl) h
    | none =>
    simp only
    cases e2 : cut sBool s with
    | some r =>
      simp only
      exact (rr_bool s c h0 hlt r (Lib.hid e1) (Lib.hid e2) w).mono fun e w' h => rrp_ok (rdd_ok (t := .mk 2 0 []) (r := r) (by rw [dep_0]; omega)) (by rw [txt_2]; rfl) h
    | none =>
    simp only
    cases e3 : cut sList s with
    | some r =>
      simp only
      have hl := cut_len e3
      obtain rfl : s = 40 :: ([108, 105, 115, 116, 32] ++ r) := by have := cut_some e3; simpa using this
      generalize hq : ([108, 105, 115, 116, 32] ++ r : T) = q at *
      have hql : q.length ≤ 1000000 := by simp at hs0; omega
      have hrl : r.length < (40 :: q : T).length := by rw [hl]; simp
      cases h1 : rdd (c + 1) (rd f r) with
      | none =>
        refine (rrl_1 q hql c h0 hlt (Lib.hid e1) (Lib.hid e2) r (Lib.hid e3) (NO r hrl h1) w).mono fun e w' h => rrp_no ?_ h
        cases ho : rd f r with
        | none => rfl
        | some p =>
          obtain ⟨t, r1⟩ := p
          simp only
          cases e5 : cut [41] r1 with
          | none => rfl
          | some r2 =>
            simp only
            refine rdd_no ?_
            rw [ho] at h1
            have : ¬ (c + 1 + dep t ≤ 200) := fun h => by rw [rdd_ok h] at h1; cases h1
            rw [dep_3]; omega
      | some p =>
        obtain ⟨t, r1⟩ := p
        obtain ⟨ho, hz⟩ := rdd_some h1
        have O1 := OK r hrl t r1 h1
        obtain ⟨hr1, hlt1⟩ := rd_sound f r ho
        have m0 : 0 < (txt t).length := Nat.lt_of_lt_of_le (size_pos t) (txt_pos t hlt1)
        have D1 : Hid ((40 :: q : T).drop (6 + (txt t).length) = r1) := Lib.hid (by
          rw [← hq, hr1, show (40 :: ([108, 105, 115, 116, 32] ++ (txt t ++ r1)) : T) = (sList ++ txt t) ++ r1 by simp]
          exact drop_at (by simp; omega))
        have hb1 : 6 + (txt t).length ≤ q.length + 1 := by
          have := congrArg List.length hr1
          rw [← hq]
          simp at this ⊢
          omega
        rw [ho]
        simp only
        cases e5 : cut [41] r1 with
        | none => exact (rrl_2 q hql c h0 hlt (Lib.hid e1) (Lib.hid e2) r (Lib.hid e3) t _ O1 m0 r1 D1 hb1 (Lib.hid e5) w).mono fun e w' h => rrp_no rfl h
        | some r2 =>
          refine (rrl_3 q hql c h0 hlt (Lib.hid e1) (Lib.hid e2) r (Lib.hid e3) t _ O1 m0 r1 D1 hb1 r2 (Lib.hid e5) w).mono fun e w' h => rrp_ok (rdd_ok ?_) ?_ h
          · rw [dep_3]; omega
          · rw [txt_3]; simp; omega
    | none =>
    simp only
    cases e4 : cut [40] s with
    | some r =>
      simp only
      obtain rfl : s = 40 :: r := by have := cut_some e4; simpa using this
      have hql : r.length ≤ 1000000 := by simp at hs0; omega
      have hrl : r.length < (40 :: r : T).length := by simp
      cases h1 : rdd (c + 1) (rd f r) with
      | none =>
        refine (rrf_1 r hql c h0 hlt (Lib.hid e1) (Lib.hid e2) r (Lib.hid e3) (Lib.hid e4) (NO r hrl h1) w).mono fun e w' h => rrp_no ?_ h
        cases ho : rd f r with
        | none => rfl
        | some p =>
          obtain ⟨t, r1⟩ := p
          simp only
          cases e5 : cut sTo r1 with
          | none => rfl
          | some r2 =>
            simp only
            cases ho2 : rd f r2 with
            | none => rfl
            | some p =>
              obtain ⟨u, r3⟩ := p
              simp only
              cases e6 : cut [41] r3 with
              | none => rfl
              | some r4 =>
                simp only
                refine rdd_no ?_
                rw [ho] at h1
                have : ¬ (c + 1 + dep t ≤ 200) := fun h => by rw [rdd_ok h] at h1; cases h1
                rw [dep_4]; omega
      | some p =>
        obtain ⟨t, r1⟩ := p
        obtain ⟨ho, hz⟩ := rdd_some h1
        have O1 := OK r hrl t r1 h1
        obtain ⟨hr1, hlt1⟩ := rd_sound f r ho
        have m0 : 0 < (txt t).length := Nat.lt_of_lt_of_le (size_pos t) (txt_pos t hlt1)
        have D1 : Hid ((40 :: r : T).drop (1 + (txt t).length) = r1) := Lib.hid (by
          rw [hr1, show (40 :: (txt t ++ r1) : T) = ([40] ++ txt t) ++ r1 by simp]
          exact drop_at (by simp; omega))
        have hb1 : 1 + (txt t).length ≤ r.length + 1 := by
          have := congrArg List.length hr1
          simp at this
          omega
        rw [ho]
        simp only
        cases e5 : cut sTo r1 with
        | none => exact (rrf_2 r hql c h0 hlt (Lib.hid e1) (Lib.hid e2) r (Lib.hid e3) (Lib.hid e4) t _ O1 m0 r1 D1 hb1 (Lib.hid e5) w).mono fun e w' h => rrp_no rfl h
        | some r2 =>
          simp only
          have hr2 := cut_some e5
          have D2 : Hid ((40 :: r : T).drop (5 + (txt t).length) = r2) := Lib.hid (by
            rw [hr1, hr2, show (40 :: (txt t ++ (sTo ++ r2)) : T) = ([40] ++ txt t ++ sTo) ++ r2 by simp]
            exact drop_at (by simp; omega))
          have hb2 : 5 + (txt t).length ≤ r.length + 1 := by
            have h3 := congrArg List.length hr1
            have h4 := congrArg List.length hr2
            simp at h3 h4
            omega
          have l2 : r2.length < (40 :: r : T).length := by
            have h3 := congrArg List.length hr1
            have h4 := congrArg List.length hr2
            simp at h3 h4 ⊢
            omega
          cases h2 : rdd (c + 1) (rd f r2) with
          | none =>
            refine (rrf_3 r hql c h0 hlt (Lib.hid e1) (Lib.hid e2) r (Lib.hid e3) (Lib.hid e4) t _ O1 m0 r1 D1 r2 (Lib.hid e5) D2 hb2 (NO r2 l2 h2) w).mono fun e w' h => rrp_no ?_ h
            cases ho2 : rd f r2 with
            | none => rfl
            | some p =>
              obtain ⟨u, r3⟩ := p
              simp only
              cases e6 : cut [41] r3 with
              | none => rfl
              | some r4 =>
                simp only
                refine rdd_no ?_
                rw [ho2] at h2
                have : ¬ (c + 1 + dep u ≤ 200) := fun h => by rw [rdd_ok h] at h2; cases h2
                rw [dep_4]; omega
          | some p =>
            obtain ⟨u, r3⟩ := p
            obtain ⟨ho2, hz2⟩ := rdd_some h2
            have O2 := OK r2 l2 u r3 h2
            obtain ⟨hr3, hlt2⟩ := rd_sound f r2 ho2
            have m2 : 0 < (txt u).length := Nat.lt_of_lt_of_le (size_pos u) (txt_pos u hlt2)
            have D3 : Hid ((40 :: r : T).drop (5 + (txt t).length + (txt u).length) = r3) := Lib.hid (by
              rw [hr1, hr2, hr3, show (40 :: (txt t ++ (sTo ++ (txt u ++ r3))) : T) = ([40] ++ txt t ++ sTo ++ txt u) ++ r3 by simp]
              exact drop_at (by simp; omega))
            have hb3 : 5 + (txt t).length + (txt u).length ≤ r.length + 1 := by
              have h3 := congrArg List.length hr1
              have h4 := congrArg List.length hr2
              have h5 := congrArg List.length hr3
              simp at h3 h4 h5
              omega
            rw [ho2]
            simp only
            cases e6 : cut [41] r3 with
            | none => exact (rrf_4 r hql c h0 hlt (Lib.hid e1) (Lib.hid e2) r (Lib.hid e3) (Lib.hid e4) t _ O1 m0 r1 D1 r2 (Lib.hid e5) D2 hb2 u _ O2 m2 r3 D3 hb3 (Lib.hid e6) w).mono fun e w' h => rrp_no rfl h
            | some r4 =>
              refine (rrf_5 r hql c h0 hlt (Lib.hid e1) (Lib.hid e2) r (Lib.hid e3) (Lib.hid e4) t _ O1 m0 r1 D1 r2 (Lib.hid e5) D2 hb2 u _ O2 m2 r3 D3 hb3 r4 (Lib.hid e6) w).mono fun e w' h => rrp_ok (rdd_ok ?_) ?_ h
              · rw [dep_4]; omega
              · rw [txt_4]; simp; omega
    | none =>
    simp only
    cases s with
    | nil => exact (rr_empty c h0 hlt (Lib.hid e1) (Lib.hid e2) (Lib.hid e3) (Lib.hid e4) w).mono fun e w' h => rrp_no rfl h
    | cons ch q =>
      simp only
      by_cases hlo : 97 ≤ ch
      · by_cases hhi : ch ≤ 122
        · rw [if_pos ⟨hlo, hhi⟩]
          have g1 := UInt8.le_iff_toNat_le.1 hlo
          have g2 := UInt8.le_iff_toNat_le.1 hhi
          exact (rr_var ch q c h0 hlt (Lib.hid e1) (Lib.hid e2) g1 g2 w).mono fun e w' h => rrp_ok (rdd_ok (t := vr _) (r := q) (by unfold vr; rw [dep_0]; omega)) (by unfold vr; rw [txt_5]; rfl) h
        · rw [if_neg (fun h => hhi h.2)]
          refine (rr_high ch q c h0 hlt (Lib.hid e1) (Lib.hid e2) (Lib.hid e3) (Lib.hid e4) ?_ w).mono fun e w' h => rrp_no rfl h
          have : ¬ (ch.toNat ≤ 122) := fun h => hhi (UInt8.le_iff_toNat_le.2 h)
          omega
      · rw [if_neg (fun h => hlo h.1)]
        refine (rr_low ch q c h0 hlt (Lib.hid e1) (Lib.hid e2) (Lib.hid e3) (Lib.hid e4) ?_ w).mono fun e w' h => rrp_no rfl h
        have : ¬ (97 ≤ ch.toNat) := fun h => hlo (UInt8.le_iff_toNat_le.2 h)
        omega
end Go.Proofs.Ytjlmhfdigoogfaa
