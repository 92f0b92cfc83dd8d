/- Walks for Apply: BinarySearchFunc (60, 61), Apply's closure (59). -/
import Derived.Test.YtjlmhfdigoogfaaApA
namespace Go.Proofs.Ytjlmhfdigoogfaa
open Go.RowKit

set_option maxRecDepth 100000 in
theorem cmp61 (x : As) (n : Int) (w : World) : Calls Try.prog 61 #[.agg #[iv x.var, iv x.ty.kind, iv x.ty.var, .slice x.ty.A x.ty.sub.length x.ty.c], iv n] w fun e w' => e = .returned (iv (wr64 (x.var - n))) ∧ Gr w w' := by
  obtain ⟨z, hz⟩ : ∃ z, IntKind.i64.wrap (x.var - n) = z := ⟨_, rfl⟩
  have EZ := Lib.hid (show wr64 (x.var - n) = z from hz)
  rw [EZ.out]
  go_enter Try.func61, Try.ntmps61
  go_wp2
  go_ret
  exact ⟨rfl, gr_al _ _⟩
/-- Where the search ends. -/
def bsl (v : Nat → Int) (n : Int) : Nat → Nat → Nat → Nat
  | 0, lo, _ => lo
  | f + 1, lo, hi => if lo < hi then (if wr64 (v ((lo + hi) / 2) - n) < 0 then bsl v n f ((lo + hi) / 2 + 1) hi else bsl v n f lo ((lo + hi) / 2)) else lo
theorem bsl_fuel (v : Nat → Int) (n : Int) : ∀ (f g lo hi : Nat), hi - lo ≤ f → hi - lo ≤ g → bsl v n f lo hi = bsl v n g lo hi
  | 0, 0, _, _, _, _ => rfl
  | 0, g + 1, lo, hi, h, _ => by simp only [bsl]; rw [if_neg (by omega)]
  | f + 1, 0, lo, hi, _, h => by simp only [bsl]; rw [if_neg (by omega)]
  | f + 1, g + 1, lo, hi, h, k => by
    simp only [bsl]
    by_cases hl : lo < hi
    · rw [if_pos hl, if_pos hl]
      split
      · exact bsl_fuel v n f g _ _ (by omega) (by omega)
      · exact bsl_fuel v n f g _ _ (by omega) (by omega)
    · rw [if_neg hl, if_neg hl]
theorem bsl_le (v : Nat → Int) (n : Int) : ∀ (f lo hi : Nat), lo ≤ hi → lo ≤ bsl v n f lo hi ∧ bsl v n f lo hi ≤ hi
  | 0, lo, hi, h => by simp only [bsl]; omega
  | f + 1, lo, hi, h => by
    simp only [bsl]
    by_cases hl : lo < hi
    · rw [if_pos hl]
      split
      · have := bsl_le v n f ((lo + hi) / 2 + 1) hi (by omega); omega
      · have := bsl_le v n f lo ((lo + hi) / 2) (by omega); omega
    · rw [if_neg hl]; omega
/-- In an ascending row it is the place of the first that is not less. -/
theorem bsl_spec {v : Nat → Int} {n : Int} {N : Nat} (hv : ∀ j, j < N → 0 ≤ v j ∧ v j ≤ 999999) (hn : 0 ≤ n ∧ n ≤ 999999) (hm : ∀ i j, i ≤ j → j < N → v i ≤ v j) : ∀ (f lo hi : Nat), lo ≤ hi → hi ≤ N → hi - lo ≤ f → (∀ j, j < lo → v j < n) → (∀ j, hi ≤ j → j < N → n ≤ v j) →
    (∀ j, j < bsl v n f lo hi → v j < n) ∧ ∀ j, bsl v n f lo hi ≤ j → j < N → n ≤ v j
  | 0, lo, hi, h, _, hf, h1, h2 => by
    simp only [bsl]
    exact ⟨h1, fun j hj hN => h2 j (by omega) hN⟩
  | f + 1, lo, hi, h, hN, hf, h1, h2 => by
    simp only [bsl]
    by_cases hl : lo < hi
    · rw [if_pos hl]
      have hb := hv ((lo + hi) / 2) (by omega)
      have hw : wr64 (v ((lo + hi) / 2) - n) = v ((lo + hi) / 2) - n := IntWalk.i64_in _ (by omega)
      rw [hw]
      split
      · exact bsl_spec hv hn hm f _ _ (by omega) hN (by omega) (fun j hj => by
          have := hm j ((lo + hi) / 2) (by omega) (by omega)
          omega) h2
      · exact bsl_spec hv hn hm f _ _ (by omega) (by omega) (by omega) h1 (fun j hj hjN => by
          have := hm ((lo + hi) / 2) j hj hjN
          omega)
    · rw [if_neg hl]
      exact ⟨h1, fun j hj hjN => h2 j (by omega) hjN⟩
set_option maxRecDepth 100000 in
set_option maxHeartbeats 4000000 in
theorem bsf60 (A : Option Addr) (c : Nat) (L : List As) (n : Int) (w : World) (hL : ARd w A L) (hl : L.length ≤ 1000000) :
    Calls Try.prog 60 #[.slice A L.length c, iv n, .func (.func 61) #[] #[]] w fun e w' => e = .returned (.tuple #[.int .i64 (bsl (fun j => ((L[j]?).map (·.var)).getD 0) n L.length 0 L.length), .bool (decide (∃ x, L[bsl (fun j => ((L[j]?).map (·.var)).getD 0) n L.length 0 L.length]? = some x ∧ wr64 (x.var - n) = 0))]) ∧ Gr w w' := by
  obtain ⟨N, hN⟩ : ∃ N, L.length = N := ⟨_, rfl⟩
  obtain ⟨v, hv⟩ : ∃ v : Nat → Int, (fun j => ((L[j]?).map (·.var)).getD 0) = v := ⟨_, rfl⟩
  rw [hN] at hl
  rw [hN, hv]
  have HN := Lib.hid hN
  have HV := Lib.hid (show ∀ (k : Nat) (x : As), L[k]? = some x → v k = x.var from fun k x hx => by rw [← hv]; simp [hx])
  have HL := Lib.hid (fun V (g : Gr w V) => hL.gr g)
  have HFU := Lib.hid (bsl_fuel v n)
  obtain ⟨R, hR⟩ : ∃ R, bsl v n N 0 N = R := ⟨_, rfl⟩
  have HR := Lib.hid hR
  have HRN := Lib.hid (show R ≤ N from by rw [← hR]; exact (bsl_le v n N 0 N (Nat.zero_le _)).2)
  rw [hR]
  obtain ⟨ok, hok⟩ : ∃ ok, decide (∃ x, L[R]? = some x ∧ wr64 (x.var - n) = 0) = ok := ⟨_, rfl⟩
  have HOK := Lib.hid hok
  rw [hok]
  have C61 := Lib.hid cmp61
  clear hN hL hv hR hok
  go_enter Try.func60, Try.ntmps60
  go_wp2
  go_loopw [9, 10] (fun lo hi V => ∃ i j : Nat, i ≤ j ∧ j ≤ N ∧ lo = .int .i64 i ∧ hi = .int .i64 j ∧ Hid (Gr w V ∧ ∀ f, j - i ≤ f → bsl v n f i j = R)) (fun lo hi _ => (intOf hi).toNat - (intOf lo).toNat)
  case atStart => exact ⟨0, N, Nat.zero_le _, Nat.le_refl _, rfl, rfl, Lib.hid ⟨gr_refl _, fun f hf => (HFU.out f N 0 N hf (by omega)).trans HR.out⟩⟩
  case round =>
    obtain ⟨i, j, hij, hj, rfl, rfl, HI⟩ := hrel
    by_cases hlt : i < j
    · obtain ⟨x, hx⟩ : ∃ x, L[(i + j) / 2]? = some x := ⟨_, List.getElem?_eq_getElem (by rw [HN.out]; omega)⟩
      obtain ⟨-, a, a1, rfl, ha, hab, d0, d1, d2, d3, -⟩ := asr_at (HL.out _ HI.out.1) hx
      have HX := Lib.hid (HV.out _ x hx)
      obtain ⟨z, hz⟩ : ∃ z, wr64 (x.var - n) = z := ⟨_, rfl⟩
      have CM := Lib.hid (fun V => C61.out x n V)
      simp only [hz] at CM
      have HZ := Lib.hid hz
      have hlt2 : (i : Int) < j := by omega
      clear hx hz
      by_cases hn : z < 0
      · have HS := Lib.hid (show ∀ f, j - ((i + j) / 2 + 1) ≤ f → bsl v n f ((i + j) / 2 + 1) j = R from fun f hf => by
          have h := HI.out.2 (f + 1 + (j - i)) (by omega)
          rw [show f + 1 + (j - i) = f + (j - i) + 1 by omega, bsl, if_pos hlt, HX.out, HZ.out, if_pos hn] at h
          rw [← h]
          exact HFU.out _ _ _ _ hf (by omega))
        go_wp2_with (first | (go_at_call 61; (with_reducible refine (CM.out _).mono ?_); rintro e w6 ⟨rfl, g6⟩; have G6 := Lib.hid g6; clear g6))
        exact ⟨⟨(i + j) / 2 + 1, j, by omega, hj, by simp, rfl, Lib.hid ⟨HI.out.1.trans G6.out, HS.out⟩⟩, by simp [intOf]; omega⟩
      · have HS := Lib.hid (show ∀ f, (i + j) / 2 - i ≤ f → bsl v n f i ((i + j) / 2) = R from fun f hf => by
          have h := HI.out.2 (f + 1 + (j - i)) (by omega)
          rw [show f + 1 + (j - i) = f + (j - i) + 1 by omega, bsl, if_pos hlt, HX.out, HZ.out, if_neg hn] at h
          rw [← h]
          exact HFU.out _ _ _ _ hf (by omega))
        go_wp2_with (first | (go_at_call 61; (with_reducible refine (CM.out _).mono ?_); rintro e w6 ⟨rfl, g6⟩; have G6 := Lib.hid g6; clear g6))
        exact ⟨⟨i, (i + j) / 2, by omega, by omega, rfl, by simp, Lib.hid ⟨HI.out.1.trans G6.out, HS.out⟩⟩, by simp [intOf]; omega⟩
    · obtain rfl : i = j := by omega
      obtain rfl : R = i := by
        have h := HI.out.2 0 (by omega)
        simp only [bsl] at h
        exact h.symm
      clear HFU
      by_cases hR : R < N
      · obtain ⟨x, hx⟩ : ∃ x, L[R]? = some x := ⟨_, List.getElem?_eq_getElem (by rw [HN.out]; exact hR)⟩
        obtain ⟨-, a, a1, rfl, ha, hab, d0, d1, d2, d3, -⟩ := asr_at (HL.out _ HI.out.1) hx
        obtain ⟨z, hz⟩ : ∃ z, wr64 (x.var - n) = z := ⟨_, rfl⟩
        have CM := Lib.hid (fun V => C61.out x n V)
        simp only [hz] at CM
        have HZ := Lib.hid (show (∃ x, L[R]? = some x ∧ wr64 (x.var - n) = 0) ↔ z = 0 from ⟨fun ⟨y, h1, h2⟩ => by rw [hx] at h1; cases h1; rw [← hz]; exact h2, fun h => ⟨x, hx, hz.trans h⟩⟩)
        clear hx hz
        by_cases hz0 : z = 0
        · obtain rfl : true = ok := by rw [← HOK.out]; exact (decide_eq_true (HZ.out.2 hz0)).symm
          subst hz0
          go_wp2_with (first | (go_at_call 61; (with_reducible refine (CM.out _).mono ?_); rintro e w6 ⟨rfl, g6⟩; have G6 := Lib.hid g6; clear g6))
          go_ret2
          exact ⟨rfl, HI.out.1.trans G6.out⟩
        · obtain rfl : false = ok := by rw [← HOK.out]; exact (decide_eq_false fun h => hz0 (HZ.out.1 h)).symm
          have hb : (z == 0) = false := by simpa using hz0
          go_wp2_with (first | (go_at_call 61; (with_reducible refine (CM.out _).mono ?_); rintro e w6 ⟨rfl, g6⟩; have G6 := Lib.hid g6; clear g6))
          go_ret2
          exact ⟨rfl, HI.out.1.trans G6.out⟩
      · have hRN : R = N := by have := HRN.out; omega
        obtain rfl : false = ok := by
          rw [← HOK.out]
          refine (decide_eq_false ?_).symm
          rintro ⟨x, hx, -⟩
          rw [List.getElem?_eq_none (by rw [HN.out]; omega)] at hx
          cases hx
        go_wp2
        go_ret2
        exact ⟨rfl, HI.out.1⟩
end Go.Proofs.Ytjlmhfdigoogfaa
