/- Walks for Apply: its closure (59); the plain answer. -/
import Derived.Test.YtjlmhfdigoogfaaApB
namespace Go.Proofs.Ytjlmhfdigoogfaa
open Go.RowKit

def bsv (s : List PA) (j : Nat) : Int := ((s[j]?).map (·.1)).getD 0
def bsfn (s : List PA) (n : Int) : PT := match s[bsl (bsv s) n s.length 0 s.length]? with | some p => if wr64 (p.1 - n) = 0 then p.2 else vr n | none => vr n
set_option maxRecDepth 100000 in
set_option maxHeartbeats 4000000 in
theorem apply1_any (p0 : Nat) (A : Option Addr) (c : Nat) (L : List As) (w0 : World) (hp : w0.cell? ⟨p0, 0, none⟩ = some (.slice A L.length c)) (hL : ARd w0 A L) (hl : L.length ≤ 1000000) (n : Int) (w : World) (g : Gr w0 w) :
    Calls Try.prog 59 #[iv n, .pointer (some ⟨p0, 0, none⟩)] w (FR w0 (bsfn (L.map As.er) n) w) := by
  have hv : (fun j => ((L[j]?).map (·.var)).getD 0) = bsv (L.map As.er) := by
    funext j
    unfold bsv
    rw [List.getElem?_map]
    cases L[j]? <;> rfl
  have C60 := Lib.hid (fun V (g : Gr w0 V) => bsf60 A c L n V (hL.gr g) hl)
  rw [hv] at C60
  obtain ⟨R, hR⟩ : ∃ R, bsl (bsv (L.map As.er)) n L.length 0 L.length = R := ⟨_, rfl⟩
  simp only [hR] at C60
  have HB := Lib.hid (show bsfn (L.map As.er) n = match L[R]? with | some x => if wr64 (x.var - n) = 0 then x.ty.er else vr n | none => vr n from by
    unfold bsfn
    rw [List.length_map, hR, List.getElem?_map]
    cases L[R]? <;> rfl)
  obtain ⟨t, ht⟩ : ∃ t, bsfn (L.map As.er) n = t := ⟨_, rfl⟩
  rw [ht] at HB ⊢
  obtain ⟨N, hN⟩ : ∃ N, L.length = N := ⟨_, rfl⟩
  have HN := Lib.hid hN
  rw [hN] at hp hl C60
  have h' := gr_c (g.trans (gr_al w (.cells #[iv 0, iv 0, .slice none 0 0] 24))) hp
  have HA := Lib.hid (show (w.alloc (.cells #[iv 0, iv 0, .slice none 0 0] 24)).heap[w.heap.size]? = some (.cells #[iv 0, iv 0, .slice none 0 0] 24 (0, 0)) from al_new _ _)
  have G0 := Lib.hid g
  have HL := Lib.hid (fun V (g : Gr w0 V) => hL.gr g)
  have VA := Lib.hid (fun V => variable_any n V)
  obtain ⟨ok, hok⟩ : ∃ ok, decide (∃ x, L[R]? = some x ∧ wr64 (x.var - n) = 0) = ok := ⟨_, rfl⟩
  simp only [hok] at C60
  have HOK := Lib.hid hok
  clear hp hL hv hR ht hN g hok
  cases ok with
  | true =>
    obtain ⟨x, hx, hz⟩ := of_decide_eq_true HOK.out
    obtain rfl : x.ty.er = t := by have := HB.out; rw [hx] at this; simp only [if_pos hz] at this; exact this.symm
    have hRN : R < N := by rw [← HN.out]; exact (List.getElem?_eq_some_iff.1 hx).1
    have HX := Lib.hid hx
    clear hx hz HOK HB
    go_enter Try.func59, Try.ntmps59
    go_wp2_with (first | (go_at_call 60; (with_reducible refine (C60.out _ (G0.out.trans (gr_al _ _))).mono ?_); rintro e w5 ⟨rfl, g5⟩; have G5 := Lib.hid g5; obtain ⟨-, a, a1, rfl, ha, hab, d0, d1, d2, d3, -⟩ := asr_at (HL.out _ ((G0.out.trans (gr_al _ _)).trans g5)) HX.out; have H5 := Lib.hid (gr_h g5 HA.out); have h5 := gr_c g5 h'; obtain ⟨⟨c0, c1, c2⟩, fz⟩ := cell3 H5.out; have z0 := fz 0; have z1 := fz 1; have z2 := fz 2; clear g5 fz))
    have H6 := Lib.hid (set3 (a' := iv x.ty.kind) (b' := iv x.ty.var) (c' := .slice x.ty.A x.ty.sub.length x.ty.c) H5.out)
    have GG := Lib.hid (show Gr w (((w5.setCell ⟨w.heap.size, 0, none⟩ (iv x.ty.kind)).setCell ⟨w.heap.size, 1, none⟩ (iv x.ty.var)).setCell ⟨w.heap.size, 2, none⟩ (.slice x.ty.A x.ty.sub.length x.ty.c)) from gr_cell (gr_cell (gr_cell ((gr_al _ _).trans G5.out) (Nat.le_refl _) _) (Nat.le_refl _) _) (Nat.le_refl _) _)
    have HR := (HL.out _ (gr_refl _)).ty x (List.mem_of_getElem? HX.out)
    refine bodyPost_ret (results_cell_row (P := Try.prog) rfl _ _ (w.heap.size) _ _ _ _ rfl H6.out rfl rfl rfl) rfl ⟨⟨_, rfl, x.ty, rfl, TRd.gr HR (G0.out.trans GG.out), (TRd.tin HR).mono fun k hk => .inl hk, rfl⟩, GG.out⟩
  | false =>
    obtain rfl : vr n = t := by
      have h1 := HB.out
      have h2 := of_decide_eq_false HOK.out
      cases hq : L[R]? with
      | none => rw [hq] at h1; exact h1.symm
      | some x =>
        rw [hq] at h1
        simp only at h1
        rw [if_neg fun h => h2 ⟨x, hq, h⟩] at h1
        exact h1.symm
    clear HOK HB
    go_enter Try.func59, Try.ntmps59
    go_wp2_with (first | (go_at_call 60; (with_reducible refine (C60.out _ (G0.out.trans (gr_al _ _))).mono ?_); rintro e w5 ⟨rfl, g5⟩; have G5 := Lib.hid g5; have H5 := Lib.hid (gr_h g5 HA.out); clear g5) | (go_at_call 62; refine (VA.out _).mono ?_; rintro e w6 ⟨rfl, g6⟩; have G6 := Lib.hid (G5.out.trans g6); have H7 := Lib.hid (gr_h g6 H5.out); obtain ⟨⟨c0, c1, c2⟩, fz⟩ := cell3 H7.out; have z0 := fz 0; have z1 := fz 1; have z2 := fz 2; clear g6 fz))
    have H6 := Lib.hid (set3 (a' := iv 5) (b' := iv n) (c' := .slice none 0 0) H7.out)
    refine bodyPost_ret (results_cell_row (P := Try.prog) rfl _ _ (w.heap.size) _ _ _ _ rfl H6.out rfl rfl rfl) rfl ⟨⟨_, rfl, TyR.flat _ _ 5 n⟩, ?_⟩
    exact gr_cell (gr_cell (gr_cell ((gr_al _ _).trans G6.out) (Nat.le_refl _) _) (Nat.le_refl _) _) (Nat.le_refl _) _
/-- Why an assignment is not valid. -/
def apg : Option Int → List PA → Int
  | _, [] => 0
  | p, x :: l => if x.1 < 0 ∨ 999999 < x.1 then 2 else if (p.map fun m => decide (x.1 ≤ m)) = some true then 10 else if ck x.2 ≠ 0 then ck x.2 else apg (some x.1) l
/-- What Apply answers. -/
def apE (s : List PA) (t : PT) : PT × Int :=
  if ck t ≠ 0 then (.mk 0 0 [], ck t) else if apg none s ≠ 0 then (.mk 0 0 [], apg none s)
  else if ck (t.rep (apf s)) ≠ 0 then (.mk 0 0 [], 4) else (t.rep (apf s), 0)
/-- A valid assignment. -/
structure VA (s : List PA) : Prop where
  r : ∀ (j : Nat) p, s[j]? = some p → 0 ≤ p.1 ∧ p.1 ≤ 999999
  m : ∀ (i j : Nat) p q, i < j → s[i]? = some p → s[j]? = some q → p.1 < q.1
  g : ∀ (j : Nat) p, s[j]? = some p → ck p.2 = 0
theorem apg_va : ∀ (s : List PA) (o : Option Int), apg o s = 0 → VA s ∧ ∀ m, o = some m → ∀ (j : Nat) p, s[j]? = some p → m < p.1
  | [], o, _ => ⟨⟨by simp, by simp, by simp⟩, by simp⟩
  | x :: l, o, h => by
    simp only [apg] at h
    split at h
    · cases h
    · rename_i h1
      split at h
      · cases h
      · rename_i h2
        split at h
        · rename_i h3; exact absurd h h3
        · rename_i h3
          obtain ⟨⟨v1, v2, v3⟩, v4⟩ := apg_va l (some x.1) h
          have v5 := v4 x.1 rfl
          have h4 : ∀ m, o = some m → m < x.1 := fun m hm => by
            subst hm
            simp only [Option.map_some, Option.some.injEq, decide_eq_true_eq] at h2
            omega
          refine ⟨⟨fun j p hp => ?_, fun i j p q hij hp hq => ?_, fun j p hp => ?_⟩, fun m hm j p hp => ?_⟩
          · cases j with
            | zero => simp at hp; subst hp; omega
            | succ j => exact v1 j p (by simpa using hp)
          · cases j with
            | zero => omega
            | succ j =>
              cases i with
              | zero => simp at hp; subst hp; exact v5 j q (by simpa using hq)
              | succ i => exact v2 i j p q (by omega) (by simpa using hp) (by simpa using hq)
          · cases j with
            | zero => simp at hp; subst hp; simpa using h3
            | succ j => exact v3 j p (by simpa using hp)
          · have h5 := h4 m hm
            cases j with
            | zero => simp at hp; subst hp; exact h5
            | succ j => have := v5 j p (by simpa using hp); omega
theorem bsfn_apf {s : List PA} (h : VA s) {n : Int} (hn : 0 ≤ n ∧ n ≤ 999999) : bsfn s n = apf s n := by
  have hb : ∀ (j : Nat) p, s[j]? = some p → bsv s j = p.1 := fun j p hp => by unfold bsv; rw [hp]; rfl
  have hg : ∀ j, j < s.length → ∃ p, s[j]? = some p := fun j hj => ⟨_, List.getElem?_eq_getElem hj⟩
  obtain ⟨b1, b2⟩ := bsl_spec (v := bsv s) (n := n) (N := s.length) (fun j hj => by
    obtain ⟨p, hp⟩ := hg j hj
    rw [hb j p hp]; exact h.r j p hp) hn (fun i j hij hj => by
    obtain ⟨p, hp⟩ := hg i (by omega)
    obtain ⟨q, hq⟩ := hg j hj
    rw [hb i p hp, hb j q hq]
    rcases Nat.lt_or_ge i j with h1 | h1
    · exact Int.le_of_lt (h.m i j p q h1 hp hq)
    · have : i = j := by omega
      subst this
      rw [hp] at hq; cases hq; omega) s.length 0 s.length (Nat.zero_le _) (Nat.le_refl _) (by omega) (fun j hj => by omega) (fun j h1 h2 => by omega)
  unfold bsfn
  generalize bsl (bsv s) n s.length 0 s.length = R at *
  have hlt : ∀ (j : Nat) q, j < R → s[j]? = some q → q.1 ≠ n := fun j q hj hq => by
    have := b1 j hj
    rw [hb j q hq] at this
    omega
  cases hq : s[R]? with
  | none =>
    have hR : s.length ≤ R := List.getElem?_eq_none_iff.1 hq
    unfold apf
    rw [fidx_none fun j q hj => hlt j q (by have := (List.getElem?_eq_some_iff.1 hj).1; omega) hj]
  | some p =>
    have hr := h.r R p hq
    have hw : wr64 (p.1 - n) = p.1 - n := IntWalk.i64_in _ (by omega)
    simp only [hw]
    by_cases he : p.1 - n = 0
    · rw [if_pos he]
      unfold apf
      rw [fidx_some hq (by omega) hlt]
      simp [hq]
    · rw [if_neg he]
      unfold apf
      rw [fidx_none fun j q hj => ?_]
      rcases Nat.lt_or_ge j R with h1 | h1
      · exact hlt j q h1 hj
      · have h2 := b2 j h1 (List.getElem?_eq_some_iff.1 hj).1
        have h3 := b2 R (Nat.le_refl _) (List.getElem?_eq_some_iff.1 hq).1
        rw [hb _ _ hj] at h2
        rw [hb _ _ hq] at h3
        rcases Nat.lt_or_ge R j with h4 | h4
        · have := h.m R j p q h4 hq hj
          omega
        · have : j = R := by omega
          subst this
          rw [hq] at hj; cases hj
          omega
theorem rep_bsfn {s : List PA} (h : VA s) {t : PT} (ht : cke t = 0) : t.rep (bsfn s) = t.rep (apf s) := rep_congr fun _ hu => bsfn_apf h (vin_range ht hu)
end Go.Proofs.Ytjlmhfdigoogfaa
