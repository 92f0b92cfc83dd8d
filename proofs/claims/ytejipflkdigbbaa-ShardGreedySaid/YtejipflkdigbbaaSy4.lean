/- Walks: slices.insertionSortCmpFunc at a part of the row; symMerge whole. -/
import Derived.Test.YtejipflkdigbbaaSy3
namespace Go.Proofs.Ytejipflkdigbbaa
open Go.RowKit

theorem ot_drew {w : World} {B : Nat} {v : Value} {L : List Int} (h : OT w B v L) (k : Nat) : OT (w.drewN k) B v L := h
/-- What a stable sort of the part X does to the row. -/
def InsPost (C : List Int) (g cap n B : Nat) (P X Q : List Int) (w : World) (e : Ending) (w' : World) : Prop :=
  e = .returned (.tuple #[]) ∧ ∃ Z, Z.Perm X ∧ Z.Pairwise (lexP C) ∧ OT w' B (.slice (some ⟨g, 0, none⟩) n cap) (P ++ Z ++ Q) ∧ w.grownBy w' (some g)

set_option maxHeartbeats 4000000 in
set_option maxRecDepth 100000 in
theorem ins53_any (C : List Int) (D g cap n B : Nat) (P X Q : List Int) (a b : Int) (w : World) (hn2 : n ≤ 1000) (hC : C.length = n) (hc : Cmp C D g w)
    (ho : OT w B (.slice (some ⟨g, 0, none⟩) n cap) (P ++ X ++ Q)) (hr : ∀ z ∈ X, 0 ≤ z ∧ z < C.length) (hX : X.Pairwise (· < ·)) (ha : a = P.length) (hb : b = P.length + X.length) :
    Calls Try.prog 53 #[.slice (some ⟨g, 0, none⟩) n cap, .int .i64 a, .int .i64 b, .func (.func 32) #[] #[.pointer (some ⟨D, 0, none⟩)]] w (InsPost C g cap n B P X Q w) := by
  have hlen : P.length + X.length + Q.length = n := by have := ot_len ho; simp at this; omega
  obtain ⟨p, hp⟩ : ∃ p, P.length = p := ⟨_, rfl⟩
  obtain ⟨l, hl⟩ : ∃ l, X.length = l := ⟨_, rfl⟩
  obtain ⟨E, hE⟩ : ∃ E, p + l = E := ⟨_, rfl⟩
  rw [hp, hl] at hlen
  have HP := Lib.hid hp
  have HL := Lib.hid hl
  have HE := Lib.hid hE
  obtain rfl : a = (p : Int) := by omega
  obtain rfl : b = (E : Int) := by omega
  have HO := Lib.hid ho
  have HC := Lib.hid hc
  have HR := Lib.hid hr
  have HX := Lib.hid hX
  have hEn : E ≤ n := by omega
  have hpE : p ≤ E := by omega
  by_cases hl0 : l = 0
  · have hX0 : X = [] := List.eq_nil_of_length_eq_zero (by omega)
    have FN : Hid (InsPost C g cap n B P X Q w (.returned (.tuple #[])) w) := Lib.hid ⟨rfl, [], by rw [hX0], List.Pairwise.nil, by rw [hX0] at ho; simpa using ho, World.grownBy.refl _ _⟩
    have t1 : ¬ (p : Int) + 1 < (E : Int) := by omega
    clear ho hc hr hX hp hl hE hlen ha hb hC HO HC HR HX hX0
    go_enter Try.func53, Try.ntmps53
    go_wp2
    refine wp_loop_rounds 1 ?_
    rw [rounds_succ]
    go_wp2
    go_end0
    exact FN.out
  · have hl1 : p + 1 ≤ E := by omega
    clear ho hc hr hX hp hl hE hlen ha hb hC hl0
    go_enter Try.func53, Try.ntmps53
    go_wp2
    go_loopw [8, 9] (fun i _ wr => ∃ (S R Z : List Int) (I : Nat), i = .int .i64 (I : Nat) ∧ I ≤ E ∧ p < I ∧ Hid (I = p + S.length) ∧ Hid (X = S ++ R) ∧ Hid (Z.Perm S) ∧ Hid (Z.Pairwise (lexP C)) ∧ Hid (OT wr B (.slice (some ⟨g, 0, none⟩) n cap) (P ++ Z ++ R ++ Q)) ∧ Hid (w.grownBy wr (some g))) (fun i _ _ => E - (intOf i).toNat)
    case atStart =>
      obtain ⟨x, R, hx⟩ : ∃ x R, X = x :: R := by
        have h1 := HL.out
        cases X with
        | nil => have := HE.out; simp at h1; omega
        | cons x R => exact ⟨x, R, rfl⟩
      exact ⟨[x], R, [x], p + 1, by go_num, hl1, by omega, Lib.hid rfl, Lib.hid (by rw [hx]; rfl), Lib.hid (.refl _), Lib.hid (by simp), Lib.hid (by have := HO.out; rw [hx] at this; simpa using this), Lib.hid (World.grownBy.refl _ _)⟩
    case round =>
      obtain ⟨S, R, Z, I, rfl, hIE, hpI, EI, EX, EZ, PZ, OW, GW⟩ := hrel
      have hRl : Hid (I + R.length = E) := Lib.hid (by have h1 := HL.out; rw [EX.out] at h1; have := EI.out; have := HE.out; simp at h1; omega)
      by_cases hlt : I < E
      · obtain ⟨y, R2, rfl⟩ : ∃ y R2, R = y :: R2 := by
          cases R with
          | nil => have h1 := hRl.out; simp at h1; omega
          | cons y R2 => exact ⟨y, R2, rfl⟩
        have hZy : Hid (∀ x ∈ Z, x < y) := Lib.hid (by
          intro x hx
          have h1 := HX.out
          rw [EX.out, List.pairwise_append] at h1
          exact h1.2.2 x (EZ.out.mem_iff.1 hx) y (by simp))
        have hZr : Hid (∀ x ∈ Z, 0 ≤ x ∧ x < C.length) := Lib.hid (fun x hx => HR.out x (by rw [EX.out]; exact List.mem_append.2 (.inl (EZ.out.mem_iff.1 hx))))
        have hyr : Hid (0 ≤ y ∧ y < C.length) := Lib.hid (HR.out y (by rw [EX.out]; simp))
        have hZl : Hid (Z.length = S.length) := Lib.hid EZ.out.length_eq
        have t1 : (I : Int) < (E : Int) := by omega
        go_wp2
        go_loopw [9] (fun j wr => ∃ (U V : List Int) (J : Nat), j = .int .i64 (J : Nat) ∧ J ≤ I ∧ p ≤ J ∧ Hid (J = p + U.length) ∧ Hid (Z = U ++ V) ∧ Hid (∀ v, V.head? = some v → cst C v < cst C y) ∧ Hid (OT wr B (.slice (some ⟨g, 0, none⟩) n cap) (P ++ U ++ y :: (V ++ R2 ++ Q))) ∧ Hid (w.grownBy wr (some g))) (fun j _ => (intOf j).toNat)
        case atStart => exact ⟨Z, [], I, by go_num, Nat.le_refl _, by omega, Lib.hid (by have := EI.out; have := hZl.out; omega), Lib.hid (by simp), Lib.hid (by simp), Lib.hid (by simpa using OW.out), GW⟩
        case round =>
          obtain ⟨U, V, J, rfl, hJI, hpJ, EJ, EU, HV, OS, GS'⟩ := hrel
          clear OW GW
          by_cases hU : U = []
          · have ej : J = p := by have h1 := EJ.out; rw [hU] at h1; simpa using h1
            have MG := Mrg.last (C := C) (X1 := U) (X2 := V) (y := y) (by rw [← EU.out]; exact PZ.out) (by rw [← EU.out]; exact hZy.out) (by rw [hU]; simp) HV.out
            have HMG := Lib.hid MG
            clear MG hU
            subst ej
            go_wp2
            go_quiet (fail)
            go_wp2
            go_roundw
            case rel => exact ⟨S ++ [y], R2, U ++ y :: V, I + 1, by go_num, by omega, by omega, Lib.hid (by have := EI.out; simp; omega), Lib.hid (by rw [EX.out]; simp), Lib.hid (by have := HMG.out.perm; rw [← EU.out] at this; exact this.trans (EZ.out.append_right _)), Lib.hid HMG.out.sorted, Lib.hid (ot_drew (by have := OS.out; simpa using this) _), Lib.hid (GS'.out.trans (grown_drewN _ _ _))⟩
            case measure => simp [intOf]; omega
          · obtain ⟨U2, x, hu⟩ : ∃ U2 x, U = U2 ++ [x] := by
              rcases List.eq_nil_or_concat U with h | ⟨U2, x, h⟩
              · exact absurd h hU
              · exact ⟨U2, x, by simpa using h⟩
            subst hu
            obtain ⟨K1, hK1⟩ : ∃ K1, K1 + 1 = J := ⟨J - 1, by have h1 := EJ.out; simp at h1; omega⟩
            have o : OT wr B (.slice (some ⟨g, 0, none⟩) n cap) ((P ++ U2) ++ x :: ([] ++ y :: (V ++ R2 ++ Q))) := by simpa using OS.out
            have hj : K1 = (P ++ U2).length := by have h1 := EJ.out; have := HP.out; simp at h1 ⊢; omega
            have hk : J = (P ++ U2).length + 1 + ([] : List Int).length := by simp only [List.length_nil]; omega
            have hJn : J < n := by omega
            obtain ⟨c1, f1⟩ := o.at' (ot_len o) (j := K1) (by omega)
            obtain ⟨c2, f2⟩ := o.at' (ot_len o) (j := J) (by omega)
            rw [get_at _ _ _ hj] at c1
            rw [two_get _ _ _ _ _ hk] at c2
            have hxm : x ∈ Z := by rw [EU.out]; simp
            have r1 := hZr.out x hxm
            have r2 := hyr.out
            have hxy := hZy.out x hxm
            have CM := fun k => (HC.out.on GS'.out) (wr.drewN k) (grown_drewN wr k _) y x r2.1 r2.2 r1.1 r1.2
            have HCM := Lib.hid CM
            have hcl := cmp_lt (cst C x) (cst C y)
            have HK1 := Lib.hid hK1
            have tp : (p : Int) < (J : Int) := by have h1 := EJ.out; simp at h1; omega
            have tt3 : ((J : Int) - 1) = (K1 : Int) := by omega
            have tk : J ≤ 1000 := by omega
            have tt2 : (K1 : Int) < (n : Int) := by omega
            have tt4 : (0 : Int) ≤ (K1 : Int) := by omega
            have tt5 : (J : Int) < (n : Int) := by omega
            have tne : K1 ≠ J := by omega
            have tne2 : J ≠ K1 := by omega
            by_cases hgo : cst C x < cst C y
            · obtain ⟨s1, s2⟩ := o.swap (ot_len o) J K1 y x
              rw [two_set' _ _ _ _ _ hj hk] at s1
              have S1 : Hid (∀ k, OT (((wr.setCell ⟨g, J, none⟩ (.int .i64 x)).setCell ⟨g, K1, none⟩ (.int .i64 y)).drewN k) B (.slice (some ⟨g, 0, none⟩) n cap) (P ++ U2 ++ y :: ((x :: V) ++ R2 ++ Q))) := Lib.hid (fun k => by have h1 := s1; simp [iv] at h1 ⊢; exact h1)
              have S2 : Hid (∀ k, w.grownBy (((wr.setCell ⟨g, J, none⟩ (.int .i64 x)).setCell ⟨g, K1, none⟩ (.int .i64 y)).drewN k) (some g)) := Lib.hid (fun k => (GS'.out.trans s2).trans (grown_drewN _ k _))
              have hcv : Lib.compareInt (cst C x) (cst C y) < 0 := by simpa [hgo] using hcl
              have HGO := Lib.hid hgo
              have EU2 : Hid (Z = U2 ++ (x :: V)) := Lib.hid (by rw [EU.out]; simp)
              clear hcl CM hxm r1 r2 hxy hK1 hj hk o OS s1 s2 hgo hU
              generalize Lib.compareInt (cst C x) (cst C y) = cv at *
              go_wp2
              go_quiet ((go_at_call 32; exact Calls.quiet_of (HCM.out _)))
              go_wp2
              go_region
              go_wp2
              go_roundw
              case rel => exact ⟨U2, x :: V, K1, by first | rfl | go_num | (rw [tt3]), by have := HK1.out; omega, by have := HK1.out; have h1 := EJ.out; simp at h1; omega, Lib.hid (by have h1 := EJ.out; have := HK1.out; simp at h1; omega), EU2, Lib.hid (fun v hv => by simp at hv; subst hv; exact HGO.out), Lib.hid (S1.out _), Lib.hid (S2.out _)⟩
              case measure => have := HK1.out; simp [intOf]; omega
            · have hcv : decide (Lib.compareInt (cst C x) (cst C y) < 0) = false := by rw [hcl]; simpa using hgo
              have MG := Mrg.last (C := C) (X1 := U2 ++ [x]) (X2 := V) (y := y) (by rw [← EU.out]; exact PZ.out) (by rw [← EU.out]; exact hZy.out) (fun z hz => by simp at hz; subst hz; exact hgo) HV.out
              have HMG := Lib.hid MG
              clear hcl CM hxm r1 r2 hxy hK1 hj hk o hgo hU MG
              generalize Lib.compareInt (cst C x) (cst C y) = cv at *
              go_wp2
              go_quiet ((go_at_call 32; exact Calls.quiet_of (HCM.out _)))
              go_wp2
              go_roundw
              case rel => exact ⟨S ++ [y], R2, U2 ++ [x] ++ y :: V, I + 1, by go_num, by omega, by omega, Lib.hid (by have := EI.out; simp; omega), Lib.hid (by rw [EX.out]; simp), Lib.hid (by have := HMG.out.perm; rw [← EU.out] at this; exact this.trans (EZ.out.append_right _)), Lib.hid HMG.out.sorted, Lib.hid (ot_drew (by have := OS.out; simpa using this) _), Lib.hid (GS'.out.trans (grown_drewN _ _ _))⟩
              case measure => simp [intOf]; omega
      · obtain rfl : R = [] := by
          cases R with
          | nil => rfl
          | cons y R2 => exfalso; have h1 := hRl.out; simp at h1; omega
        have FN : Hid (InsPost C g cap n B P X Q w (.returned (.tuple #[])) wr) := Lib.hid ⟨rfl, Z, by rw [EX.out]; simpa using EZ.out, PZ.out, by simpa using OW.out, GW.out⟩
        have t1 : ¬ (I : Int) < (E : Int) := by omega
        go_wp2
        go_end0
        exact FN.out

theorem sym_ih (C : List Int) (D g cap n B : Nat) (hn2 : n ≤ 1000) (hC : C.length = n) : ∀ N, SymIH C D g cap n B N := by
  intro N
  induction N with
  | zero => intro P X Y Q a m b w h; omega
  | succ N ih =>
    intro P X Y Q a m b w hN hX0 hY0 hc ho hr hX hY hxy ha hm hb
    have x0 : 0 < X.length := List.length_pos_iff.2 hX0
    have y0 : 0 < Y.length := List.length_pos_iff.2 hY0
    by_cases h1 : X.length = 1
    · obtain ⟨x, rfl⟩ := List.length_eq_one_iff.1 h1
      exact sym_one C D g cap n B P Y Q x a m b w hn2 hY0 hC hc ho hr hY (fun y hy => hxy x (by simp) y hy) ha (by simpa using hm) (by simpa using hb)
    · by_cases h2 : Y.length = 1
      · obtain ⟨y, rfl⟩ := List.length_eq_one_iff.1 h2
        exact sym_last C D g cap n B P X Q y a m b w hn2 (by omega) hC hc ho hr hX (fun x hx => hxy x hx y (by simp)) ha hm (by simpa using hb)
      · exact sym_gen C D g cap n B N ih P X Y Q a m b w (by omega) hn2 (by omega) (by omega) hC hc ho hr hX hY hxy ha hm hb
end Go.Proofs.Ytejipflkdigbbaa
