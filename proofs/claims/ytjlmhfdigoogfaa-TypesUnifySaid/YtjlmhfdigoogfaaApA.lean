/- Walks for Apply: large (22), find (86), BinarySearchFunc (60, 61), Apply's closure (59). -/
import Derived.Test.YtjlmhfdigoogfaaM5
namespace Go.Proofs.Ytjlmhfdigoogfaa
open Go.RowKit

/-- An assignment is too large. -/
def lrg (l : List PA) : Bool := l.any (fun p => grt p.2) || decide (10 < l.length)
theorem asr_at {V : World} {A : Option Addr} {L : List As} (h : ARd V A L) {k : Nat} {x : As} (hx : L[k]? = some x) : k < L.length ∧ ∃ a a1 : Addr, A = some a ∧ a.add (k * 4) = a1 ∧ a1.block < V.heap.size ∧ V.cell? a1 = some (iv x.var) ∧ V.cell? ⟨a1.block, a1.off + 1, none⟩ = some (iv x.ty.kind) ∧ V.cell? ⟨a1.block, a1.off + 2, none⟩ = some (iv x.ty.var) ∧ V.cell? ⟨a1.block, a1.off + 3, none⟩ = some (.slice x.ty.A x.ty.sub.length x.ty.c) ∧ x.ty.Rd V := by
  obtain ⟨hk, rfl⟩ := List.getElem?_eq_some_iff.1 hx
  exact ⟨hk, h.at hk⟩
set_option maxRecDepth 100000 in
set_option maxHeartbeats 4000000 in
theorem large_any (A : Option Addr) (c : Nat) (L : List As) (w : World) (hL : ARd w A L) (hl : L.length ≤ 9223372036854775807) : Calls Try.prog 22 #[.slice A L.length c] w fun e w' => e = .returned (.bool (lrg (L.map As.er))) ∧ Gr w w' := by
  obtain ⟨N, hN⟩ : ∃ N, L.length = N := ⟨_, rfl⟩
  rw [hN] at hl
  rw [hN]
  have HN := Lib.hid hN
  have HL := Lib.hid (fun V (g : Gr w V) => hL.gr g)
  have GR := Lib.hid great1_any
  have HLR := Lib.hid (show ∀ (k : Nat) (x : As), L[k]? = some x → grt x.ty.er = true → lrg (L.map As.er) = true from fun k x hk hx => by
    unfold lrg
    have : (L.map As.er).any (fun p => grt p.2) = true := by
      rw [List.any_eq_true]
      exact ⟨x.er, List.mem_map.2 ⟨x, List.mem_of_getElem? hk, rfl⟩, hx⟩
    rw [this]; rfl)
  have HLE := Lib.hid (show (∀ (j : Nat) (x : As), j < L.length → L[j]? = some x → grt x.ty.er = false) → lrg (L.map As.er) = decide (10 < L.length) from fun h => by
    unfold lrg
    have : (L.map As.er).any (fun p => grt p.2) = false := by
      rw [List.any_eq_false]
      intro p hp
      obtain ⟨x, hx, rfl⟩ := List.mem_map.1 hp
      obtain ⟨j, hj⟩ := List.getElem?_of_mem hx
      have := h j x (List.getElem?_eq_some_iff.1 hj).1 hj
      simpa [As.er] using this
    rw [this, List.length_map]; rfl)
  obtain ⟨R, hR⟩ : ∃ R, lrg (L.map As.er) = R := ⟨_, rfl⟩
  rw [hR] at HLR HLE ⊢
  clear hN hL hR
  go_enter Try.func22, Try.ntmps22
  go_wp2
  go_loopw [7] (fun i V => ∃ k : Nat, k ≤ N ∧ i = .int .i64 k ∧ Hid (Gr w V ∧ ∀ j x, j < k → L[j]? = some x → grt x.ty.er = false)) (fun i _ => N - (intOf i).toNat)
  case atStart => exact ⟨0, Nat.zero_le _, rfl, Lib.hid ⟨gr_refl _, fun j x h => by omega⟩⟩
  case round =>
    obtain ⟨k, hk, rfl, HI⟩ := hrel
    by_cases hlt : k < N
    · obtain ⟨x, hx⟩ : ∃ x, L[k]? = some x := ⟨_, List.getElem?_eq_getElem (by rw [HN.out]; exact hlt)⟩
      obtain ⟨-, a, a1, rfl, ha, hab, d0, d1, d2, d3, hxr⟩ := asr_at (HL.out _ HI.out.1) hx
      have HX := Lib.hid hx
      have C40 := Lib.hid (fun V (g : Gr wr V) => great1_any x.ty V (TRd.gr hxr g))
      obtain ⟨g, hg⟩ : ∃ g, grt x.ty.er = g := ⟨_, rfl⟩
      have HG := Lib.hid hg
      simp only [hg] at C40
      unfold Ty.v at C40
      clear hx hxr hg
      cases g with
      | true =>
        obtain rfl : true = R := (HLR.out k x HX.out HG.out).symm
        go_wp2_with (first | (go_at_call 40; (with_reducible refine (C40.out _ (gr_al _ _)).mono ?_); rintro e w6 ⟨rfl, g6⟩; have G6 := Lib.hid ((gr_al _ _).trans g6); clear g6))
        go_ret
        exact ⟨rfl, HI.out.1.trans G6.out⟩
      | false =>
        go_wp2_with (first | (go_at_call 40; (with_reducible refine (C40.out _ (gr_al _ _)).mono ?_); rintro e w6 ⟨rfl, g6⟩; have G6 := Lib.hid ((gr_al _ _).trans g6); clear g6))
        exact ⟨⟨k + 1, hlt, by simp, Lib.hid ⟨HI.out.1.trans G6.out, fun j y hj hy => by
          rcases Nat.lt_succ_iff_lt_or_eq.1 hj with h | rfl
          · exact HI.out.2 j y h hy
          · have := HX.out.symm.trans hy
            cases this
            exact HG.out⟩⟩, by simp [intOf]; omega⟩
    · have HE := Lib.hid (show R = decide (10 < N) from by
        have h := HLE.out (fun j x hj => HI.out.2 j x (by rw [HN.out] at hj; omega))
        rw [HN.out] at h
        exact h)
      go_wp2
      go_ret
      exact ⟨by rw [HE.out]; congr 2; simp; omega, HI.out.1⟩
/-- The first element with a variable. -/
def fidx (n : Int) : List PA → Option Nat
  | [] => none
  | p :: l => if p.1 = n then some 0 else (fidx n l).map (· + 1)
theorem fidx_some {n : Int} : ∀ {l : List PA} {k : Nat} {p : PA}, l[k]? = some p → p.1 = n → (∀ j q, j < k → l[j]? = some q → q.1 ≠ n) → fidx n l = some k
  | [], k, p, h, _, _ => by simp at h
  | q :: l, 0, p, h, hp, _ => by simp at h; subst h; simp [fidx, hp]
  | q :: l, k + 1, p, h, hp, hn => by
    have h1 := hn 0 q (by omega) rfl
    simp only [fidx, if_neg h1]
    rw [fidx_some (k := k) (p := p) (by simpa using h) hp (fun j r hj hr => hn (j + 1) r (by omega) (by simpa using hr))]
    rfl
theorem fidx_none {n : Int} : ∀ {l : List PA}, (∀ (j : Nat) q, l[j]? = some q → q.1 ≠ n) → fidx n l = none
  | [], _ => rfl
  | q :: l, h => by
    simp only [fidx, if_neg (h 0 q rfl)]
    rw [fidx_none (l := l) fun j r hr => h (j + 1) r (by simpa using hr)]
    rfl
theorem fidx_at {n : Int} : ∀ {l : List PA} {k : Nat}, fidx n l = some k → ∃ p, l[k]? = some p ∧ p.1 = n
  | [], _, h => by simp [fidx] at h
  | q :: l, k, h => by
    by_cases hq : q.1 = n
    · simp only [fidx, if_pos hq, Option.some.injEq] at h; subst h; exact ⟨q, rfl, hq⟩
    · simp only [fidx, if_neg hq] at h
      obtain ⟨j, hj, rfl⟩ := Option.map_eq_some_iff.1 h
      obtain ⟨p, h1, h2⟩ := fidx_at hj
      exact ⟨p, by simpa using h1, h2⟩
def fii (n : Int) (l : List PA) : Int := match fidx n l with | some i => (i : Int) | none => -1
/-- What stands for a variable. -/
def apf (s : List PA) (n : Int) : PT := match fidx n s with | some i => ((s[i]?).map (·.2)).getD (vr n) | none => vr n
set_option maxRecDepth 100000 in
set_option maxHeartbeats 4000000 in
theorem find86 (A : Option Addr) (c : Nat) (L : List As) (n : Int) (w : World) (hL : ARd w A L) (hl : L.length ≤ 9223372036854775807) : Calls Try.prog 86 #[.slice A L.length c, iv n] w fun e w' => e = .returned (iv (fii n (L.map As.er))) ∧ w' = w := by
  obtain ⟨N, hN⟩ : ∃ N, L.length = N := ⟨_, rfl⟩
  rw [hN] at hl
  rw [hN]
  have HN := Lib.hid hN
  have HL := Lib.hid hL
  have HF := Lib.hid (show ∀ (k : Nat) (x : As), L[k]? = some x → x.var = n → (∀ j y, j < k → L[j]? = some y → y.var ≠ n) → fii n (L.map As.er) = k from fun k x hx hv hj => by
    unfold fii
    rw [fidx_some (k := k) (p := x.er) (by rw [List.getElem?_map, hx]; rfl) hv (fun j q hjk hq => by
      rw [List.getElem?_map] at hq
      obtain ⟨y, h1, rfl⟩ := Option.map_eq_some_iff.1 hq
      exact hj j y hjk h1)])
  have HE := Lib.hid (show (∀ (j : Nat) (y : As), j < L.length → L[j]? = some y → y.var ≠ n) → fii n (L.map As.er) = -1 from fun h => by
    unfold fii
    rw [fidx_none (fun j q hq => by
      rw [List.getElem?_map] at hq
      obtain ⟨y, h1, rfl⟩ := Option.map_eq_some_iff.1 hq
      exact h j y (List.getElem?_eq_some_iff.1 h1).1 h1)])
  obtain ⟨R, hR⟩ : ∃ R, fii n (L.map As.er) = R := ⟨_, rfl⟩
  rw [hR] at HF HE ⊢
  clear hN hL hR
  go_enter Try.func86, Try.ntmps86
  go_wp2
  go_loop [5] (fun i => ∃ k : Nat, k ≤ N ∧ i = .int .i64 k ∧ Hid (∀ (j : Nat) (y : As), j < k → L[j]? = some y → y.var ≠ n)) (fun i => N - (intOf i).toNat)
  case atStart => exact ⟨0, Nat.zero_le _, rfl, Lib.hid fun j x h => by omega⟩
  case round =>
    obtain ⟨k, hk, rfl, HI⟩ := hrel
    by_cases hlt : k < N
    · obtain ⟨x, hx⟩ : ∃ x, L[k]? = some x := ⟨_, List.getElem?_eq_getElem (by rw [HN.out]; exact hlt)⟩
      obtain ⟨-, a, a1, rfl, ha, hab, d0, d1, d2, d3, -⟩ := asr_at HL.out hx
      have HX := Lib.hid hx
      by_cases hv : x.var = n
      · obtain rfl : (k : Int) = R := (HF.out k x hx hv HI.out).symm
        subst hv
        clear hx
        go_wp2
        go_ret
        exact ⟨rfl, rfl⟩
      · clear hx
        have HV := Lib.hid hv
        go_wp2
        go_round
        case rel => exact ⟨k + 1, hlt, by simp, Lib.hid fun j y hj hy => by
          rcases Nat.lt_succ_iff_lt_or_eq.1 hj with h | rfl
          · exact HI.out j y h hy
          · have := HX.out.symm.trans hy
            cases this
            exact HV.out⟩
        case measure => simp [intOf]; omega
    · obtain rfl : -1 = R := (HE.out (fun j y hj => HI.out j y (by rw [HN.out] at hj; omega))).symm
      go_wp2
      go_ret
      exact ⟨rfl, rfl⟩
end Go.Proofs.Ytjlmhfdigoogfaa
