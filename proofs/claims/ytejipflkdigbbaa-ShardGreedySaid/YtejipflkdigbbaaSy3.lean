/- Walk: slices.symMergeCmpFunc where both runs have two elements or more. -/
import Derived.Test.YtejipflkdigbbaaSy2
namespace Go.Proofs.Ytejipflkdigbbaa
open Go.RowKit

/-- symMerge at runs of a length below a bound. -/
def SymIH (C : List Int) (D g cap n B N : Nat) : Prop := ∀ (P X Y Q : List Int) (a m b : Int) (w : World), X.length + Y.length < N → X ≠ [] → Y ≠ [] → Cmp C D g w → OT w B (.slice (some ⟨g, 0, none⟩) n cap) (P ++ X ++ Y ++ Q) →
  (∀ z ∈ X ++ Y, 0 ≤ z ∧ z < C.length) → X.Pairwise (lexP C) → Y.Pairwise (lexP C) → (∀ x ∈ X, ∀ y ∈ Y, x < y) → a = P.length → m = P.length + X.length → b = P.length + X.length + Y.length →
  Calls Try.prog 54 #[.slice (some ⟨g, 0, none⟩) n cap, .int .i64 a, .int .i64 m, .int .i64 b, .func (.func 32) #[] #[.pointer (some ⟨D, 0, none⟩)]] w (SymPost C g cap n B P X Y Q w)

set_option maxHeartbeats 8000000 in
set_option maxRecDepth 100000 in
theorem sym_gen (C : List Int) (D g cap n B N : Nat) (IH : SymIH C D g cap n B N) (P X Y Q : List Int) (a m b : Int) (w : World) (hN : X.length + Y.length ≤ N) (hn2 : n ≤ 1000) (hX2 : 2 ≤ X.length) (hY2 : 2 ≤ Y.length) (hC : C.length = n) (hc : Cmp C D g w)
    (ho : OT w B (.slice (some ⟨g, 0, none⟩) n cap) (P ++ X ++ Y ++ Q)) (hr : ∀ z ∈ X ++ Y, 0 ≤ z ∧ z < C.length) (hX : X.Pairwise (lexP C)) (hY : Y.Pairwise (lexP C)) (hxy : ∀ x ∈ X, ∀ y ∈ Y, x < y) (ha : a = P.length) (hm : m = P.length + X.length) (hb : b = P.length + X.length + Y.length) :
    Calls Try.prog 54 #[.slice (some ⟨g, 0, none⟩) n cap, .int .i64 a, .int .i64 m, .int .i64 b, .func (.func 32) #[] #[.pointer (some ⟨D, 0, none⟩)]] w (SymPost C g cap n B P X Y Q w) := by
  have hlen : P.length + X.length + Y.length + Q.length = n := by have := ot_len ho; simp at this; omega
  obtain ⟨p, hp⟩ : ∃ p, P.length = p := ⟨_, rfl⟩
  obtain ⟨l, hl⟩ : ∃ l, X.length = l := ⟨_, rfl⟩
  obtain ⟨r, hr'⟩ : ∃ r, Y.length = r := ⟨_, rfl⟩
  obtain ⟨M, hM⟩ : ∃ M, p + l = M := ⟨_, rfl⟩
  obtain ⟨E, hE⟩ : ∃ E, p + l + r = E := ⟨_, rfl⟩
  obtain ⟨d, hd⟩ : ∃ d : Nat, ((p : Int) + (E : Int)) / 2 = d := ⟨(((p : Int) + (E : Int)) / 2).toNat, by omega⟩
  rw [hp, hl, hr'] at hlen
  have HP := Lib.hid hp
  have HL := Lib.hid hl
  have HR' := Lib.hid hr'
  have HM := Lib.hid hM
  have HE := Lib.hid hE
  obtain rfl : a = (p : Int) := by omega
  obtain rfl : m = (M : Int) := by omega
  obtain rfl : b = (E : Int) := by omega
  have HO := Lib.hid ho
  have HC := Lib.hid hc
  have HR := Lib.hid hr
  have HX := Lib.hid hX
  have HY := Lib.hid hY
  have HXY := Lib.hid hxy
  have HN := Lib.hid hN
  have HIH := Lib.hid IH
  have hb0 : p + 2 ≤ M ∧ M + 2 ≤ E ∧ E ≤ n := by omega
  have hb1 : p + 2 ≤ d ∧ d + 2 ≤ E := by omega
  have HDD : Hid (2 * d ≤ p + E ∧ p + E ≤ 2 * d + 1) := Lib.hid (by omega)
  have e1 : ((M : Int) - (p : Int) == 1) = false := by simp; omega
  have e2 : ((E : Int) - (M : Int) == 1) = false := by simp; omega
  -- where the search begins and ends
  have hcase : (∃ s0 : Nat, d < M ∧ (d : Int) + M - E = (s0 : Int) ∧ s0 ≤ d ∧ p ≤ s0) ∨ (M ≤ d) := by
    by_cases h : d < M
    · exact .inl ⟨((d : Int) + M - E).toNat, h, by omega, by omega, by omega⟩
    · exact .inr (by omega)
  clear ho hc hr hX hY hxy hp hl hr' hX2 hY2 hlen ha hm hb hC hM hE hN IH
  have TAIL : ∀ (s0 r0 : Nat), s0 ≤ r0 → r0 ≤ d → r0 ≤ M → p ≤ s0 → d + M ≤ s0 + E → (s0 = p ∨ s0 + E = d + M) → (r0 = M ∨ r0 = d) → True := fun _ _ _ _ _ _ _ _ _ => trivial
  clear TAIL
  rcases hcase with ⟨s0, hs1, hs2, hs3, hs4⟩ | hs1
  · skip
    have tg : (d : Int) < (M : Int) := by omega
    have B0 : Hid (s0 ≤ d ∧ d ≤ d ∧ d ≤ M ∧ p ≤ s0 ∧ d + M ≤ s0 + E ∧ (s0 = p ∨ s0 + E = d + M) ∧ (d = M ∨ d = d)) := Lib.hid (by omega)
    go_enter Try.func54, Try.ntmps54
    go_wp2
    go_loopw [20, 21, 23] (fun i j _ wr => ∃ s t : Nat, s ≤ t ∧ t ≤ d ∧ s0 ≤ s ∧ i = .int .i64 (s : Nat) ∧ j = .int .i64 (t : Nat) ∧ Hid (s0 < s → cst C (Y.getD (d - s) 0) ≤ cst C (X.getD (s - 1 - p) 0)) ∧ Hid (t < d → cst C (X.getD (t - p) 0) < cst C (Y.getD (d - 1 - t) 0)) ∧ Hid (∃ k, wr = w.drewN k)) (fun i j _ _ => (intOf j).toNat - (intOf i).toNat)
    case atStart => exact ⟨s0, d, B0.out.1, Nat.le_refl _, Nat.le_refl _, by first | rfl | go_num, by first | rfl | go_num, Lib.hid (fun h => by omega), Lib.hid (fun h => by omega), Lib.hid ⟨0, rfl⟩⟩
    case round =>
      obtain ⟨s, t, hst, ht, hs, rfl, rfl, H1, H2, HW⟩ := hrel
      have OW : Hid (OT wr B (.slice (some ⟨g, 0, none⟩) n cap) (P ++ X ++ Y ++ Q)) := Lib.hid (by obtain ⟨k, rfl⟩ := HW.out; exact HO.out)
      have GW : Hid (w.grownBy wr (some g)) := Lib.hid (by obtain ⟨k, rfl⟩ := HW.out; exact grown_drewN w k _)
      by_cases hlt : s < t
      · obtain ⟨c, hcc⟩ : ∃ c : Nat, ((s : Int) + (t : Int)) / 2 = c := ⟨(((s : Int) + (t : Int)) / 2).toNat, by omega⟩
        have hq1 : s ≤ c ∧ c < t := by omega
        have BB := B0.out
        obtain ⟨z, hz⟩ : ∃ z : Nat, (d : Int) + M - 1 - c = z := ⟨((d : Int) + M - 1 - c).toNat, by omega⟩
        have hzb : M ≤ z ∧ z < E ∧ c < M ∧ p ≤ c := by omega
        have hcl1 : c - p < X.length := by have := HL.out; have := HM.out; omega
        have hcl2 : d - 1 - c < Y.length := by have := HR'.out; have := HE.out; have := HM.out; omega
        have hgx : (P ++ X ++ Y ++ Q).getD c 0 = X.getD (c - p) 0 := by
          have e : P ++ X ++ Y ++ Q = P ++ (X ++ (Y ++ Q)) := by simp
          rw [e, getD_right _ _ (by have := HP.out; omega), HP.out, getD_left _ _ hcl1]
        have hgy : (P ++ X ++ Y ++ Q).getD z 0 = Y.getD (d - 1 - c) 0 := by
          have e : P ++ X ++ Y ++ Q = (P ++ X) ++ (Y ++ Q) := by simp
          have e2 : (P ++ X).length = M := by have := HP.out; have := HL.out; have := HM.out; simp; omega
          rw [e, getD_right _ _ (by omega), e2]
          have e3 : z - M = d - 1 - c := by omega
          rw [e3, getD_left _ _ hcl2]
        obtain ⟨c1, -⟩ := OW.out.at' (ot_len OW.out) (j := c) (by omega)
        obtain ⟨c2, -⟩ := OW.out.at' (ot_len OW.out) (j := z) (by omega)
        rw [hgx] at c1
        rw [hgy] at c2
        have hxm : X.getD (c - p) 0 ∈ X := by simp only [List.getD_eq_getElem?_getD, List.getElem?_eq_getElem hcl1, Option.getD_some]; exact List.getElem_mem hcl1
        have hym : Y.getD (d - 1 - c) 0 ∈ Y := by simp only [List.getD_eq_getElem?_getD, List.getElem?_eq_getElem hcl2, Option.getD_some]; exact List.getElem_mem hcl2
        have r1 := HR.out _ (List.mem_append.2 (.inl hxm))
        have r2 := HR.out _ (List.mem_append.2 (.inr hym))
        have CM := fun k => (HC.out.on GW.out) (wr.drewN k) (grown_drewN wr k _) (Y.getD (d - 1 - c) 0) (X.getD (c - p) 0) r2.1 r2.2 r1.1 r1.2
        have HCM := Lib.hid CM
        have hcl := cmp_lt (cst C (X.getD (c - p) 0)) (cst C (Y.getD (d - 1 - c) 0))
        have tI : (s : Int) < (t : Int) := by omega
        have th1 : (c : Int) < (n : Int) := by omega
        have th2 : (z : Int) < (n : Int) := by omega
        have NX1 : Hid (¬ cst C (X.getD (c - p) 0) < cst C (Y.getD (d - 1 - c) 0) → s0 < c + 1 → cst C (Y.getD (d - (c + 1)) 0) ≤ cst C (X.getD (c + 1 - 1 - p) 0)) := Lib.hid (fun h _ => by
          have e1 : d - (c + 1) = d - 1 - c := by omega
          rw [e1, Nat.add_sub_cancel]
          omega)
        have NX2 : Hid (cst C (X.getD (c - p) 0) < cst C (Y.getD (d - 1 - c) 0) → c < d → cst C (X.getD (c - p) 0) < cst C (Y.getD (d - 1 - c) 0)) := Lib.hid (fun h _ => h)
        clear hgy hgx hym hxm r1 r2 CM BB hcl1 hcl2
        generalize Lib.compareInt (cst C (X.getD (c - p) 0)) (cst C (Y.getD (d - 1 - c) 0)) = cv at *
        obtain ⟨cx, hcx⟩ : ∃ cx, cst C (X.getD (c - p) 0) = cx := ⟨_, rfl⟩
        obtain ⟨cy, hcy⟩ : ∃ cy, cst C (Y.getD (d - 1 - c) 0) = cy := ⟨_, rfl⟩
        rw [hcx, hcy] at hcl
        have HCX := Lib.hid hcx
        have HCY := Lib.hid hcy
        clear hcx hcy
        obtain ⟨x, hxq⟩ : ∃ x, X.getD (c - p) 0 = x := ⟨_, rfl⟩
        obtain ⟨y, hyq⟩ : ∃ y, Y.getD (d - 1 - c) 0 = y := ⟨_, rfl⟩
        rw [hxq] at c1 HCM
        rw [hyq] at c2 HCM
        clear hxq hyq
        by_cases hgo : cx < cy
        · have hcv : cv < 0 := by simpa [hgo] using hcl
          clear hcl
          go_wp2
          go_quiet ((go_at_call 32; exact Calls.quiet_of (HCM.out _)))
          go_wp2
          go_roundw
          case rel => exact ⟨s, c, by omega, by omega, by omega, rfl, by first | rfl | go_num, H1, Lib.hid (NX2.out (by rw [HCX.out, HCY.out]; exact hgo)), Lib.hid (by obtain ⟨k, rfl⟩ := HW.out; exact ⟨_, World.drewN_drewN _ _ _⟩)⟩
          case measure => simp [intOf]; omega
        · have hcv : decide (cv < 0) = false := by rw [hcl]; simpa using hgo
          clear hcl
          go_wp2
          go_quiet ((go_at_call 32; exact Calls.quiet_of (HCM.out _)))
          go_wp2
          go_roundw
          case rel => exact ⟨c + 1, t, by omega, by omega, by omega, by first | rfl | go_num, rfl, Lib.hid (NX1.out (by rw [HCX.out, HCY.out]; exact hgo)), H2, Lib.hid (by obtain ⟨k, rfl⟩ := HW.out; exact ⟨_, World.drewN_drewN _ _ _⟩)⟩
          case measure => simp [intOf]; omega
      · obtain rfl : s = t := by omega
        have BB := B0.out
        obtain ⟨e, he⟩ : ∃ e : Nat, (d : Int) + M - s = e := ⟨((d : Int) + M - s).toNat, by omega⟩
        have heb : M ≤ e ∧ e ≤ E ∧ p ≤ s ∧ s ≤ M ∧ s ≤ d ∧ d ≤ e := by omega
        obtain ⟨X1, X2, hx, hx1⟩ : ∃ X1 X2, X = X1 ++ X2 ∧ X1.length = s - p := ⟨X.take (s - p), X.drop (s - p), by simp, by have := HL.out; have := HM.out; simp; omega⟩
        obtain ⟨Y1, Y2, hy, hy1⟩ : ∃ Y1 Y2, Y = Y1 ++ Y2 ∧ Y1.length = e - M := ⟨Y.take (e - M), Y.drop (e - M), by simp, by have := HR'.out; have := HE.out; have := HM.out; simp; omega⟩
        have hx2 : X2.length = M - s := by have h1 := HL.out; rw [hx] at h1; have := HM.out; simp at h1; omega
        have hy2 : Y2.length = E - e := by have h1 := HR'.out; rw [hy] at h1; have := HM.out; have := HE.out; simp at h1; omega
        have CR : Hid (∀ u ∈ X1 ++ Y1, ∀ v ∈ X2 ++ Y2, lexP C u v) := Lib.hid (by
          have k1 := HX.out
          have k2 := HY.out
          have k3 := HXY.out
          have k4 := H1.out
          have k5 := H2.out
          rw [hx] at k1 k3 k4 k5
          rw [hy] at k2 k3 k4 k5
          refine sym_cross k1 k2 k3 (fun x y q1 q2 => ?_) (fun x y q1 q2 => ?_)
          · obtain ⟨l1, l2⟩ := last_getD q1 X2
            obtain ⟨l3, l4⟩ := head_getD q2 Y1
            have l5 := k4 (by omega)
            have z1 : s - 1 - p = X1.length - 1 := by omega
            have z2 : d - s = Y1.length := by omega
            rw [z1, z2, l2, l4] at l5
            omega
          · obtain ⟨l1, l2⟩ := head_getD q1 X1
            obtain ⟨l3, l4⟩ := last_getD q2 Y2
            have l5 := k5 (by omega)
            have z1 : s - p = X1.length := by omega
            have z2 : d - 1 - s = Y1.length - 1 := by omega
            rw [z1, z2, l2, l4] at l5
            exact l5)
        have PX1 : Hid (X1.Pairwise (lexP C)) := Lib.hid (by have := HX.out; rw [hx] at this; exact (List.pairwise_append.1 this).1)
        have PX2 : Hid (X2.Pairwise (lexP C)) := Lib.hid (by have := HX.out; rw [hx] at this; exact (List.pairwise_append.1 this).2.1)
        have PY1 : Hid (Y1.Pairwise (lexP C)) := Lib.hid (by have := HY.out; rw [hy] at this; exact (List.pairwise_append.1 this).1)
        have PY2 : Hid (Y2.Pairwise (lexP C)) := Lib.hid (by have := HY.out; rw [hy] at this; exact (List.pairwise_append.1 this).2.1)
        have XY1 : Hid (∀ x ∈ X1, ∀ y ∈ Y1, x < y) := Lib.hid (fun x h1 y h2 => HXY.out x (by rw [hx]; exact List.mem_append.2 (.inl h1)) y (by rw [hy]; exact List.mem_append.2 (.inl h2)))
        have XY2 : Hid (∀ x ∈ X2, ∀ y ∈ Y2, x < y) := Lib.hid (fun x h1 y h2 => HXY.out x (by rw [hx]; exact List.mem_append.2 (.inr h1)) y (by rw [hy]; exact List.mem_append.2 (.inr h2)))
        have R1 : Hid (∀ z ∈ X1 ++ Y1, 0 ≤ z ∧ z < C.length) := Lib.hid (fun z h => HR.out z (by rw [hx, hy]; simp only [List.mem_append] at h ⊢; rcases h with h | h <;> simp [h]))
        have R2 : Hid (∀ z ∈ X2 ++ Y2, 0 ≤ z ∧ z < C.length) := Lib.hid (fun z h => HR.out z (by rw [hx, hy]; simp only [List.mem_append] at h ⊢; rcases h with h | h <;> simp [h]))
        have OX : Hid (OT wr B (.slice (some ⟨g, 0, none⟩) n cap) ((P ++ X1) ++ X2 ++ Y1 ++ (Y2 ++ Q))) := Lib.hid (by have := OW.out; rw [hx, hy] at this; simpa using this)
        have LX1 := Lib.hid hx1
        have LX2 := Lib.hid hx2
        have LY1 := Lib.hid hy1
        have LY2 := Lib.hid hy2
        have HXX := Lib.hid hx
        have HYY := Lib.hid hy
        have HEE := Lib.hid he
        have LEN : Hid (X1.length + Y1.length < N ∧ X2.length + Y2.length < N) := Lib.hid (by have h1 := HN.out; rw [hx, hy] at h1; simp at h1; omega)
        clear hx hy hx1 hy1 hx2 hy2 OW H1 H2 BB
        by_cases g1 : s < M
        · by_cases g2 : M < e
          · by_cases g3 : p < s
            · by_cases g6 : e < E
              · skip
                have t1 : (s : Int) < (M : Int) := by omega
                have t2 : (M : Int) < (e : Int) := by omega
                have t4 : (s : Int) < (d : Int) := by omega
                have t5 : (d : Int) < (e : Int) := by omega
                have t3 : (p : Int) < (s : Int) := by omega
                have t6 : (e : Int) < (E : Int) := by omega
                go_wp2_with (first
                  | (go_at_call 73; refine (rotate_any g cap n B (P ++ X1) X2 Y1 (Y2 ++ Q) _ _ _ _ wr (fun e => by have := LX2.out; rw [e] at this; simp at this; omega) (fun e => by have := LY1.out; rw [e] at this; simp at this; omega) hn2 OX.out (by have := LX1.out; have := LX2.out; have := LY1.out; have := LY2.out; have := HP.out; have := HEE.out; simp; omega) (by have := LX1.out; have := LX2.out; have := LY1.out; have := LY2.out; have := HP.out; have := HEE.out; simp; omega) (by have := LX1.out; have := LX2.out; have := LY1.out; have := LY2.out; have := HP.out; have := HEE.out; simp; omega)).mono ?_; rintro e' w1 ⟨rfl, o1, g1⟩; have O1 : Hid (OT w1 B (.slice (some ⟨g, 0, none⟩) n cap) (P ++ X1 ++ Y1 ++ (X2 ++ Y2 ++ Q))) := Lib.hid (by simpa using o1); have G1 := Lib.hid (GW.out.trans g1); clear o1 g1)
                  | (go_at_call 54; refine (HIH.out P X1 Y1 (X2 ++ Y2 ++ Q) _ _ _ _ LEN.out.1 (fun e => by have := LX1.out; rw [e] at this; simp at this; omega) (fun e => by have := LY1.out; rw [e] at this; simp at this; omega) (HC.out.on G1.out) O1.out R1.out PX1.out PY1.out XY1.out (by have := LX1.out; have := LX2.out; have := LY1.out; have := LY2.out; have := HP.out; have := HEE.out; omega) (by have := LX1.out; have := LX2.out; have := LY1.out; have := LY2.out; have := HP.out; have := HEE.out; omega) (by have := LX1.out; have := LX2.out; have := LY1.out; have := LY2.out; have := HP.out; have := HEE.out; omega)).mono ?_; rintro e' w2 ⟨rfl, Z1, m1, o2, g2⟩; have M1 := Lib.hid m1; have O2 : Hid (OT w2 B (.slice (some ⟨g, 0, none⟩) n cap) (P ++ Z1 ++ (X2 ++ Y2 ++ Q))) := Lib.hid o2; have G2 := Lib.hid (G1.out.trans g2); have LZ : Hid (Z1.length = X1.length + Y1.length) := Lib.hid (by rw [m1.perm.length_eq]; simp); clear o2 g2 m1)
                  | (go_at_call 54; refine (HIH.out (P ++ Z1) X2 Y2 Q _ _ _ _ LEN.out.2 (fun e => by have := LX2.out; rw [e] at this; simp at this; omega) (fun e => by have := LY2.out; rw [e] at this; simp at this; omega) (HC.out.on G2.out) (by simpa using O2.out) R2.out PX2.out PY2.out XY2.out (by have := LX1.out; have := LX2.out; have := LY1.out; have := LY2.out; have := HP.out; have := HEE.out; have := LZ.out; simp; omega) (by have := LX1.out; have := LX2.out; have := LY1.out; have := LY2.out; have := HP.out; have := HEE.out; have := LZ.out; simp; omega) (by have := LX1.out; have := LX2.out; have := LY1.out; have := LY2.out; have := HP.out; have := HEE.out; have := LZ.out; simp; omega)).mono ?_; rintro e' w3 ⟨rfl, Z2, m2, o3, g3⟩; have M2 := Lib.hid m2; have O3 := Lib.hid o3; have G3 := Lib.hid (G2.out.trans g3); clear o3 g3 m2))
                all_goals (go_end0; exact ⟨rfl, Z1 ++ Z2, by rw [HXX.out, HYY.out]; exact M1.out.join M2.out CR.out, by simpa using O3.out, G3.out⟩)
              · skip
                have t1 : (s : Int) < (M : Int) := by omega
                have t2 : (M : Int) < (e : Int) := by omega
                have t4 : (s : Int) < (d : Int) := by omega
                have t5 : (d : Int) < (e : Int) := by omega
                have t3 : (p : Int) < (s : Int) := by omega
                have t6 : decide ((e : Int) < (E : Int)) = false := by simp; omega
                have M2p : Hid (Mrg C X2 Y2 (X2 ++ Y2)) := Lib.hid (by have h1 : Y2 = [] := List.eq_nil_of_length_eq_zero (by have := LY2.out; omega); rw [h1]; exact Mrg.left PX2.out)
                go_wp2_with (first
                  | (go_at_call 73; refine (rotate_any g cap n B (P ++ X1) X2 Y1 (Y2 ++ Q) _ _ _ _ wr (fun e => by have := LX2.out; rw [e] at this; simp at this; omega) (fun e => by have := LY1.out; rw [e] at this; simp at this; omega) hn2 OX.out (by have := LX1.out; have := LX2.out; have := LY1.out; have := LY2.out; have := HP.out; have := HEE.out; simp; omega) (by have := LX1.out; have := LX2.out; have := LY1.out; have := LY2.out; have := HP.out; have := HEE.out; simp; omega) (by have := LX1.out; have := LX2.out; have := LY1.out; have := LY2.out; have := HP.out; have := HEE.out; simp; omega)).mono ?_; rintro e' w1 ⟨rfl, o1, g1⟩; have O1 : Hid (OT w1 B (.slice (some ⟨g, 0, none⟩) n cap) (P ++ X1 ++ Y1 ++ (X2 ++ Y2 ++ Q))) := Lib.hid (by simpa using o1); have G1 := Lib.hid (GW.out.trans g1); clear o1 g1)
                  | (go_at_call 54; refine (HIH.out P X1 Y1 (X2 ++ Y2 ++ Q) _ _ _ _ LEN.out.1 (fun e => by have := LX1.out; rw [e] at this; simp at this; omega) (fun e => by have := LY1.out; rw [e] at this; simp at this; omega) (HC.out.on G1.out) O1.out R1.out PX1.out PY1.out XY1.out (by have := LX1.out; have := LX2.out; have := LY1.out; have := LY2.out; have := HP.out; have := HEE.out; omega) (by have := LX1.out; have := LX2.out; have := LY1.out; have := LY2.out; have := HP.out; have := HEE.out; omega) (by have := LX1.out; have := LX2.out; have := LY1.out; have := LY2.out; have := HP.out; have := HEE.out; omega)).mono ?_; rintro e' w2 ⟨rfl, Z1, m1, o2, g2⟩; have M1 := Lib.hid m1; have O2 : Hid (OT w2 B (.slice (some ⟨g, 0, none⟩) n cap) (P ++ Z1 ++ (X2 ++ Y2 ++ Q))) := Lib.hid o2; have G2 := Lib.hid (G1.out.trans g2); have LZ : Hid (Z1.length = X1.length + Y1.length) := Lib.hid (by rw [m1.perm.length_eq]; simp); clear o2 g2 m1))
                all_goals (go_end0; exact ⟨rfl, Z1 ++ (X2 ++ Y2), by rw [HXX.out, HYY.out]; exact M1.out.join M2p.out CR.out, by simpa using O2.out, G2.out⟩)
            · by_cases g6 : e < E
              · skip
                have t1 : (s : Int) < (M : Int) := by omega
                have t2 : (M : Int) < (e : Int) := by omega
                have t4 : (s : Int) < (d : Int) := by omega
                have t5 : (d : Int) < (e : Int) := by omega
                have t3 : decide ((p : Int) < (s : Int)) = false := by simp; omega
                have t6 : (e : Int) < (E : Int) := by omega
                have M1p : Hid (Mrg C X1 Y1 (X1 ++ Y1)) := Lib.hid (by have h1 : X1 = [] := List.eq_nil_of_length_eq_zero (by have := LX1.out; omega); rw [h1]; exact Mrg.right PY1.out)
                go_wp2_with (first
                  | (go_at_call 73; refine (rotate_any g cap n B (P ++ X1) X2 Y1 (Y2 ++ Q) _ _ _ _ wr (fun e => by have := LX2.out; rw [e] at this; simp at this; omega) (fun e => by have := LY1.out; rw [e] at this; simp at this; omega) hn2 OX.out (by have := LX1.out; have := LX2.out; have := LY1.out; have := LY2.out; have := HP.out; have := HEE.out; simp; omega) (by have := LX1.out; have := LX2.out; have := LY1.out; have := LY2.out; have := HP.out; have := HEE.out; simp; omega) (by have := LX1.out; have := LX2.out; have := LY1.out; have := LY2.out; have := HP.out; have := HEE.out; simp; omega)).mono ?_; rintro e' w1 ⟨rfl, o1, g1⟩; have O1 : Hid (OT w1 B (.slice (some ⟨g, 0, none⟩) n cap) (P ++ X1 ++ Y1 ++ (X2 ++ Y2 ++ Q))) := Lib.hid (by simpa using o1); have G1 := Lib.hid (GW.out.trans g1); clear o1 g1)
                  | (go_at_call 54; refine (HIH.out (P ++ (X1 ++ Y1)) X2 Y2 Q _ _ _ _ LEN.out.2 (fun e => by have := LX2.out; rw [e] at this; simp at this; omega) (fun e => by have := LY2.out; rw [e] at this; simp at this; omega) (HC.out.on G1.out) (by simpa using O1.out) R2.out PX2.out PY2.out XY2.out (by have := LX1.out; have := LX2.out; have := LY1.out; have := LY2.out; have := HP.out; have := HEE.out; simp; omega) (by have := LX1.out; have := LX2.out; have := LY1.out; have := LY2.out; have := HP.out; have := HEE.out; simp; omega) (by have := LX1.out; have := LX2.out; have := LY1.out; have := LY2.out; have := HP.out; have := HEE.out; simp; omega)).mono ?_; rintro e' w3 ⟨rfl, Z2, m2, o3, g3⟩; have M2 := Lib.hid m2; have O3 := Lib.hid o3; have G3 := Lib.hid (G1.out.trans g3); clear o3 g3 m2))
                all_goals (go_end0; exact ⟨rfl, (X1 ++ Y1) ++ Z2, by rw [HXX.out, HYY.out]; exact M1p.out.join M2.out CR.out, by simpa using O3.out, G3.out⟩)
              · skip
                have t1 : (s : Int) < (M : Int) := by omega
                have t2 : (M : Int) < (e : Int) := by omega
                have t4 : (s : Int) < (d : Int) := by omega
                have t5 : (d : Int) < (e : Int) := by omega
                have t3 : decide ((p : Int) < (s : Int)) = false := by simp; omega
                have t6 : decide ((e : Int) < (E : Int)) = false := by simp; omega
                have M1p : Hid (Mrg C X1 Y1 (X1 ++ Y1)) := Lib.hid (by have h1 : X1 = [] := List.eq_nil_of_length_eq_zero (by have := LX1.out; omega); rw [h1]; exact Mrg.right PY1.out)
                have M2p : Hid (Mrg C X2 Y2 (X2 ++ Y2)) := Lib.hid (by have h1 : Y2 = [] := List.eq_nil_of_length_eq_zero (by have := LY2.out; omega); rw [h1]; exact Mrg.left PX2.out)
                go_wp2_with (first
                  | (go_at_call 73; refine (rotate_any g cap n B (P ++ X1) X2 Y1 (Y2 ++ Q) _ _ _ _ wr (fun e => by have := LX2.out; rw [e] at this; simp at this; omega) (fun e => by have := LY1.out; rw [e] at this; simp at this; omega) hn2 OX.out (by have := LX1.out; have := LX2.out; have := LY1.out; have := LY2.out; have := HP.out; have := HEE.out; simp; omega) (by have := LX1.out; have := LX2.out; have := LY1.out; have := LY2.out; have := HP.out; have := HEE.out; simp; omega) (by have := LX1.out; have := LX2.out; have := LY1.out; have := LY2.out; have := HP.out; have := HEE.out; simp; omega)).mono ?_; rintro e' w1 ⟨rfl, o1, g1⟩; have O1 : Hid (OT w1 B (.slice (some ⟨g, 0, none⟩) n cap) (P ++ X1 ++ Y1 ++ (X2 ++ Y2 ++ Q))) := Lib.hid (by simpa using o1); have G1 := Lib.hid (GW.out.trans g1); clear o1 g1))
                all_goals (go_end0; exact ⟨rfl, (X1 ++ Y1) ++ (X2 ++ Y2), by rw [HXX.out, HYY.out]; exact M1p.out.join M2p.out CR.out, by simpa using O1.out, G1.out⟩)
          · skip
            have t1 : (s : Int) < (M : Int) := by omega
            have t2 : decide ((M : Int) < (e : Int)) = false := by simp; omega
            have t3 : (p : Int) < (s : Int) := by omega
            have t4 : decide ((s : Int) < (d : Int)) = false := by simp; omega
            have t5 : (d : Int) < (e : Int) := by omega
            have t6 : (e : Int) < (E : Int) := by omega
            have EMP : Hid (Y1 = []) := Lib.hid (List.eq_nil_of_length_eq_zero (by have := LY1.out; have := HEE.out; omega))
            have M1p : Hid (Mrg C X1 Y1 (X1 ++ Y1)) := Lib.hid (by have h1 : Y1 = [] := List.eq_nil_of_length_eq_zero (by have := LY1.out; have := HEE.out; omega); rw [h1]; exact Mrg.left PX1.out)
            have O1 : Hid (OT wr B (.slice (some ⟨g, 0, none⟩) n cap) (P ++ X1 ++ Y1 ++ (X2 ++ Y2 ++ Q))) := Lib.hid (by have h1 := OX.out; rw [EMP.out] at h1 ⊢; simpa using h1)
            have G1 := GW
            go_wp2_with (first
              | (go_at_call 54; refine (HIH.out (P ++ (X1 ++ Y1)) X2 Y2 Q _ _ _ _ LEN.out.2 (fun e => by have := LX2.out; rw [e] at this; simp at this; omega) (fun e => by have := LY2.out; rw [e] at this; simp at this; omega) (HC.out.on G1.out) (by simpa using O1.out) R2.out PX2.out PY2.out XY2.out (by have := LX1.out; have := LX2.out; have := LY1.out; have := LY2.out; have := HP.out; have := HEE.out; simp; omega) (by have := LX1.out; have := LX2.out; have := LY1.out; have := LY2.out; have := HP.out; have := HEE.out; simp; omega) (by have := LX1.out; have := LX2.out; have := LY1.out; have := LY2.out; have := HP.out; have := HEE.out; simp; omega)).mono ?_; rintro e' w3 ⟨rfl, Z2, m2, o3, g3⟩; have M2 := Lib.hid m2; have O3 := Lib.hid o3; have G3 := Lib.hid (G1.out.trans g3); clear o3 g3 m2))
            all_goals (go_end0; exact ⟨rfl, (X1 ++ Y1) ++ Z2, by rw [HXX.out, HYY.out]; exact M1p.out.join M2.out CR.out, by simpa using O3.out, G3.out⟩)
        · by_cases g2 : M < e
          · skip
            have t1 : decide ((s : Int) < (M : Int)) = false := by simp; omega
            have t3 : (p : Int) < (s : Int) := by omega
            have t4 : (s : Int) < (d : Int) := by omega
            have t5 : decide ((d : Int) < (e : Int)) = false := by simp; omega
            have EMP : Hid (X2 = []) := Lib.hid (List.eq_nil_of_length_eq_zero (by have := LX2.out; omega))
            have M2p : Hid (Mrg C X2 Y2 (X2 ++ Y2)) := Lib.hid (by have h1 : X2 = [] := List.eq_nil_of_length_eq_zero (by have := LX2.out; omega); rw [h1]; exact Mrg.right PY2.out)
            have O1 : Hid (OT wr B (.slice (some ⟨g, 0, none⟩) n cap) (P ++ X1 ++ Y1 ++ (X2 ++ Y2 ++ Q))) := Lib.hid (by have h1 := OX.out; rw [EMP.out] at h1 ⊢; simpa using h1)
            have G1 := GW
            go_wp2_with (first
              | (go_at_call 54; refine (HIH.out P X1 Y1 (X2 ++ Y2 ++ Q) _ _ _ _ LEN.out.1 (fun e => by have := LX1.out; rw [e] at this; simp at this; omega) (fun e => by have := LY1.out; rw [e] at this; simp at this; omega) (HC.out.on G1.out) O1.out R1.out PX1.out PY1.out XY1.out (by have := LX1.out; have := LX2.out; have := LY1.out; have := LY2.out; have := HP.out; have := HEE.out; omega) (by have := LX1.out; have := LX2.out; have := LY1.out; have := LY2.out; have := HP.out; have := HEE.out; omega) (by have := LX1.out; have := LX2.out; have := LY1.out; have := LY2.out; have := HP.out; have := HEE.out; omega)).mono ?_; rintro e' w2 ⟨rfl, Z1, m1, o2, g2⟩; have M1 := Lib.hid m1; have O2 : Hid (OT w2 B (.slice (some ⟨g, 0, none⟩) n cap) (P ++ Z1 ++ (X2 ++ Y2 ++ Q))) := Lib.hid o2; have G2 := Lib.hid (G1.out.trans g2); have LZ : Hid (Z1.length = X1.length + Y1.length) := Lib.hid (by rw [m1.perm.length_eq]; simp); clear o2 g2 m1))
            all_goals (go_end0; exact ⟨rfl, Z1 ++ (X2 ++ Y2), by rw [HXX.out, HYY.out]; exact M1.out.join M2p.out CR.out, by simpa using O2.out, G2.out⟩)
          · skip
            have t1 : decide ((s : Int) < (M : Int)) = false := by simp; omega
            have t3 : (p : Int) < (s : Int) := by omega
            have t4 : decide ((s : Int) < (d : Int)) = false := by simp; omega
            have t5 : decide ((d : Int) < (e : Int)) = false := by simp; omega
            have EMP : Hid (X2 = []) := Lib.hid (List.eq_nil_of_length_eq_zero (by have := LX2.out; omega))
            have M1p : Hid (Mrg C X1 Y1 (X1 ++ Y1)) := Lib.hid (by have h1 : Y1 = [] := List.eq_nil_of_length_eq_zero (by have := LY1.out; have := HEE.out; omega); rw [h1]; exact Mrg.left PX1.out)
            have M2p : Hid (Mrg C X2 Y2 (X2 ++ Y2)) := Lib.hid (by have h1 : X2 = [] := List.eq_nil_of_length_eq_zero (by have := LX2.out; omega); rw [h1]; exact Mrg.right PY2.out)
            have O1 : Hid (OT wr B (.slice (some ⟨g, 0, none⟩) n cap) (P ++ X1 ++ Y1 ++ (X2 ++ Y2 ++ Q))) := Lib.hid (by have h1 := OX.out; rw [EMP.out] at h1 ⊢; simpa using h1)
            have G1 := GW
            go_wp2
            all_goals (go_end0; exact ⟨rfl, (X1 ++ Y1) ++ (X2 ++ Y2), by rw [HXX.out, HYY.out]; exact M1p.out.join M2p.out CR.out, by simpa using O1.out, G1.out⟩)
  · skip
    have tg : ¬ (d : Int) < (M : Int) := by omega
    have B0 : Hid (p ≤ M ∧ M ≤ d ∧ M ≤ M ∧ p ≤ p ∧ d + M ≤ p + E ∧ (p = p ∨ p + E = d + M) ∧ (M = M ∨ M = d)) := Lib.hid (by have := HDD.out; omega)
    go_enter Try.func54, Try.ntmps54
    go_wp2
    go_loopw [20, 21, 23] (fun i j _ wr => ∃ s t : Nat, s ≤ t ∧ t ≤ M ∧ p ≤ s ∧ i = .int .i64 (s : Nat) ∧ j = .int .i64 (t : Nat) ∧ Hid (p < s → cst C (Y.getD (d - s) 0) ≤ cst C (X.getD (s - 1 - p) 0)) ∧ Hid (t < M → cst C (X.getD (t - p) 0) < cst C (Y.getD (d - 1 - t) 0)) ∧ Hid (∃ k, wr = w.drewN k)) (fun i j _ _ => (intOf j).toNat - (intOf i).toNat)
    case atStart => exact ⟨p, M, B0.out.1, Nat.le_refl _, Nat.le_refl _, by first | rfl | go_num, by first | rfl | go_num, Lib.hid (fun h => by omega), Lib.hid (fun h => by omega), Lib.hid ⟨0, rfl⟩⟩
    case round =>
      obtain ⟨s, t, hst, ht, hs, rfl, rfl, H1, H2, HW⟩ := hrel
      have OW : Hid (OT wr B (.slice (some ⟨g, 0, none⟩) n cap) (P ++ X ++ Y ++ Q)) := Lib.hid (by obtain ⟨k, rfl⟩ := HW.out; exact HO.out)
      have GW : Hid (w.grownBy wr (some g)) := Lib.hid (by obtain ⟨k, rfl⟩ := HW.out; exact grown_drewN w k _)
      by_cases hlt : s < t
      · obtain ⟨c, hcc⟩ : ∃ c : Nat, ((s : Int) + (t : Int)) / 2 = c := ⟨(((s : Int) + (t : Int)) / 2).toNat, by omega⟩
        have hq1 : s ≤ c ∧ c < t := by omega
        have BB := B0.out
        obtain ⟨z, hz⟩ : ∃ z : Nat, (d : Int) + M - 1 - c = z := ⟨((d : Int) + M - 1 - c).toNat, by omega⟩
        have hzb : M ≤ z ∧ z < E ∧ c < M ∧ p ≤ c := by omega
        have hcl1 : c - p < X.length := by have := HL.out; have := HM.out; omega
        have hcl2 : d - 1 - c < Y.length := by have := HR'.out; have := HE.out; have := HM.out; omega
        have hgx : (P ++ X ++ Y ++ Q).getD c 0 = X.getD (c - p) 0 := by
          have e : P ++ X ++ Y ++ Q = P ++ (X ++ (Y ++ Q)) := by simp
          rw [e, getD_right _ _ (by have := HP.out; omega), HP.out, getD_left _ _ hcl1]
        have hgy : (P ++ X ++ Y ++ Q).getD z 0 = Y.getD (d - 1 - c) 0 := by
          have e : P ++ X ++ Y ++ Q = (P ++ X) ++ (Y ++ Q) := by simp
          have e2 : (P ++ X).length = M := by have := HP.out; have := HL.out; have := HM.out; simp; omega
          rw [e, getD_right _ _ (by omega), e2]
          have e3 : z - M = d - 1 - c := by omega
          rw [e3, getD_left _ _ hcl2]
        obtain ⟨c1, -⟩ := OW.out.at' (ot_len OW.out) (j := c) (by omega)
        obtain ⟨c2, -⟩ := OW.out.at' (ot_len OW.out) (j := z) (by omega)
        rw [hgx] at c1
        rw [hgy] at c2
        have hxm : X.getD (c - p) 0 ∈ X := by simp only [List.getD_eq_getElem?_getD, List.getElem?_eq_getElem hcl1, Option.getD_some]; exact List.getElem_mem hcl1
        have hym : Y.getD (d - 1 - c) 0 ∈ Y := by simp only [List.getD_eq_getElem?_getD, List.getElem?_eq_getElem hcl2, Option.getD_some]; exact List.getElem_mem hcl2
        have r1 := HR.out _ (List.mem_append.2 (.inl hxm))
        have r2 := HR.out _ (List.mem_append.2 (.inr hym))
        have CM := fun k => (HC.out.on GW.out) (wr.drewN k) (grown_drewN wr k _) (Y.getD (d - 1 - c) 0) (X.getD (c - p) 0) r2.1 r2.2 r1.1 r1.2
        have HCM := Lib.hid CM
        have hcl := cmp_lt (cst C (X.getD (c - p) 0)) (cst C (Y.getD (d - 1 - c) 0))
        have tI : (s : Int) < (t : Int) := by omega
        have th1 : (c : Int) < (n : Int) := by omega
        have th2 : (z : Int) < (n : Int) := by omega
        have NX1 : Hid (¬ cst C (X.getD (c - p) 0) < cst C (Y.getD (d - 1 - c) 0) → p < c + 1 → cst C (Y.getD (d - (c + 1)) 0) ≤ cst C (X.getD (c + 1 - 1 - p) 0)) := Lib.hid (fun h _ => by
          have e1 : d - (c + 1) = d - 1 - c := by omega
          rw [e1, Nat.add_sub_cancel]
          omega)
        have NX2 : Hid (cst C (X.getD (c - p) 0) < cst C (Y.getD (d - 1 - c) 0) → c < M → cst C (X.getD (c - p) 0) < cst C (Y.getD (d - 1 - c) 0)) := Lib.hid (fun h _ => h)
        clear hgy hgx hym hxm r1 r2 CM BB hcl1 hcl2
        generalize Lib.compareInt (cst C (X.getD (c - p) 0)) (cst C (Y.getD (d - 1 - c) 0)) = cv at *
        obtain ⟨cx, hcx⟩ : ∃ cx, cst C (X.getD (c - p) 0) = cx := ⟨_, rfl⟩
        obtain ⟨cy, hcy⟩ : ∃ cy, cst C (Y.getD (d - 1 - c) 0) = cy := ⟨_, rfl⟩
        rw [hcx, hcy] at hcl
        have HCX := Lib.hid hcx
        have HCY := Lib.hid hcy
        clear hcx hcy
        obtain ⟨x, hxq⟩ : ∃ x, X.getD (c - p) 0 = x := ⟨_, rfl⟩
        obtain ⟨y, hyq⟩ : ∃ y, Y.getD (d - 1 - c) 0 = y := ⟨_, rfl⟩
        rw [hxq] at c1 HCM
        rw [hyq] at c2 HCM
        clear hxq hyq
        by_cases hgo : cx < cy
        · have hcv : cv < 0 := by simpa [hgo] using hcl
          clear hcl
          go_wp2
          go_quiet ((go_at_call 32; exact Calls.quiet_of (HCM.out _)))
          go_wp2
          go_roundw
          case rel => exact ⟨s, c, by omega, by omega, by omega, rfl, by first | rfl | go_num, H1, Lib.hid (NX2.out (by rw [HCX.out, HCY.out]; exact hgo)), Lib.hid (by obtain ⟨k, rfl⟩ := HW.out; exact ⟨_, World.drewN_drewN _ _ _⟩)⟩
          case measure => simp [intOf]; omega
        · have hcv : decide (cv < 0) = false := by rw [hcl]; simpa using hgo
          clear hcl
          go_wp2
          go_quiet ((go_at_call 32; exact Calls.quiet_of (HCM.out _)))
          go_wp2
          go_roundw
          case rel => exact ⟨c + 1, t, by omega, by omega, by omega, by first | rfl | go_num, rfl, Lib.hid (NX1.out (by rw [HCX.out, HCY.out]; exact hgo)), H2, Lib.hid (by obtain ⟨k, rfl⟩ := HW.out; exact ⟨_, World.drewN_drewN _ _ _⟩)⟩
          case measure => simp [intOf]; omega
      · obtain rfl : s = t := by omega
        have BB := B0.out
        obtain ⟨e, he⟩ : ∃ e : Nat, (d : Int) + M - s = e := ⟨((d : Int) + M - s).toNat, by omega⟩
        have heb : M ≤ e ∧ e ≤ E ∧ p ≤ s ∧ s ≤ M ∧ s ≤ d ∧ d ≤ e := by omega
        obtain ⟨X1, X2, hx, hx1⟩ : ∃ X1 X2, X = X1 ++ X2 ∧ X1.length = s - p := ⟨X.take (s - p), X.drop (s - p), by simp, by have := HL.out; have := HM.out; simp; omega⟩
        obtain ⟨Y1, Y2, hy, hy1⟩ : ∃ Y1 Y2, Y = Y1 ++ Y2 ∧ Y1.length = e - M := ⟨Y.take (e - M), Y.drop (e - M), by simp, by have := HR'.out; have := HE.out; have := HM.out; simp; omega⟩
        have hx2 : X2.length = M - s := by have h1 := HL.out; rw [hx] at h1; have := HM.out; simp at h1; omega
        have hy2 : Y2.length = E - e := by have h1 := HR'.out; rw [hy] at h1; have := HM.out; have := HE.out; simp at h1; omega
        have CR : Hid (∀ u ∈ X1 ++ Y1, ∀ v ∈ X2 ++ Y2, lexP C u v) := Lib.hid (by
          have k1 := HX.out
          have k2 := HY.out
          have k3 := HXY.out
          have k4 := H1.out
          have k5 := H2.out
          rw [hx] at k1 k3 k4 k5
          rw [hy] at k2 k3 k4 k5
          refine sym_cross k1 k2 k3 (fun x y q1 q2 => ?_) (fun x y q1 q2 => ?_)
          · obtain ⟨l1, l2⟩ := last_getD q1 X2
            obtain ⟨l3, l4⟩ := head_getD q2 Y1
            have l5 := k4 (by omega)
            have z1 : s - 1 - p = X1.length - 1 := by omega
            have z2 : d - s = Y1.length := by omega
            rw [z1, z2, l2, l4] at l5
            omega
          · obtain ⟨l1, l2⟩ := head_getD q1 X1
            obtain ⟨l3, l4⟩ := last_getD q2 Y2
            have l5 := k5 (by omega)
            have z1 : s - p = X1.length := by omega
            have z2 : d - 1 - s = Y1.length - 1 := by omega
            rw [z1, z2, l2, l4] at l5
            exact l5)
        have PX1 : Hid (X1.Pairwise (lexP C)) := Lib.hid (by have := HX.out; rw [hx] at this; exact (List.pairwise_append.1 this).1)
        have PX2 : Hid (X2.Pairwise (lexP C)) := Lib.hid (by have := HX.out; rw [hx] at this; exact (List.pairwise_append.1 this).2.1)
        have PY1 : Hid (Y1.Pairwise (lexP C)) := Lib.hid (by have := HY.out; rw [hy] at this; exact (List.pairwise_append.1 this).1)
        have PY2 : Hid (Y2.Pairwise (lexP C)) := Lib.hid (by have := HY.out; rw [hy] at this; exact (List.pairwise_append.1 this).2.1)
        have XY1 : Hid (∀ x ∈ X1, ∀ y ∈ Y1, x < y) := Lib.hid (fun x h1 y h2 => HXY.out x (by rw [hx]; exact List.mem_append.2 (.inl h1)) y (by rw [hy]; exact List.mem_append.2 (.inl h2)))
        have XY2 : Hid (∀ x ∈ X2, ∀ y ∈ Y2, x < y) := Lib.hid (fun x h1 y h2 => HXY.out x (by rw [hx]; exact List.mem_append.2 (.inr h1)) y (by rw [hy]; exact List.mem_append.2 (.inr h2)))
        have R1 : Hid (∀ z ∈ X1 ++ Y1, 0 ≤ z ∧ z < C.length) := Lib.hid (fun z h => HR.out z (by rw [hx, hy]; simp only [List.mem_append] at h ⊢; rcases h with h | h <;> simp [h]))
        have R2 : Hid (∀ z ∈ X2 ++ Y2, 0 ≤ z ∧ z < C.length) := Lib.hid (fun z h => HR.out z (by rw [hx, hy]; simp only [List.mem_append] at h ⊢; rcases h with h | h <;> simp [h]))
        have OX : Hid (OT wr B (.slice (some ⟨g, 0, none⟩) n cap) ((P ++ X1) ++ X2 ++ Y1 ++ (Y2 ++ Q))) := Lib.hid (by have := OW.out; rw [hx, hy] at this; simpa using this)
        have LX1 := Lib.hid hx1
        have LX2 := Lib.hid hx2
        have LY1 := Lib.hid hy1
        have LY2 := Lib.hid hy2
        have HXX := Lib.hid hx
        have HYY := Lib.hid hy
        have HEE := Lib.hid he
        have LEN : Hid (X1.length + Y1.length < N ∧ X2.length + Y2.length < N) := Lib.hid (by have h1 := HN.out; rw [hx, hy] at h1; simp at h1; omega)
        clear hx hy hx1 hy1 hx2 hy2 OW H1 H2 BB
        by_cases g1 : s < M
        · by_cases g2 : M < e
          · by_cases g3 : p < s
            · by_cases g6 : e < E
              · skip
                have t1 : (s : Int) < (M : Int) := by omega
                have t2 : (M : Int) < (e : Int) := by omega
                have t4 : (s : Int) < (d : Int) := by omega
                have t5 : (d : Int) < (e : Int) := by omega
                have t3 : (p : Int) < (s : Int) := by omega
                have t6 : (e : Int) < (E : Int) := by omega
                go_wp2_with (first
                  | (go_at_call 73; refine (rotate_any g cap n B (P ++ X1) X2 Y1 (Y2 ++ Q) _ _ _ _ wr (fun e => by have := LX2.out; rw [e] at this; simp at this; omega) (fun e => by have := LY1.out; rw [e] at this; simp at this; omega) hn2 OX.out (by have := LX1.out; have := LX2.out; have := LY1.out; have := LY2.out; have := HP.out; have := HEE.out; simp; omega) (by have := LX1.out; have := LX2.out; have := LY1.out; have := LY2.out; have := HP.out; have := HEE.out; simp; omega) (by have := LX1.out; have := LX2.out; have := LY1.out; have := LY2.out; have := HP.out; have := HEE.out; simp; omega)).mono ?_; rintro e' w1 ⟨rfl, o1, g1⟩; have O1 : Hid (OT w1 B (.slice (some ⟨g, 0, none⟩) n cap) (P ++ X1 ++ Y1 ++ (X2 ++ Y2 ++ Q))) := Lib.hid (by simpa using o1); have G1 := Lib.hid (GW.out.trans g1); clear o1 g1)
                  | (go_at_call 54; refine (HIH.out P X1 Y1 (X2 ++ Y2 ++ Q) _ _ _ _ LEN.out.1 (fun e => by have := LX1.out; rw [e] at this; simp at this; omega) (fun e => by have := LY1.out; rw [e] at this; simp at this; omega) (HC.out.on G1.out) O1.out R1.out PX1.out PY1.out XY1.out (by have := LX1.out; have := LX2.out; have := LY1.out; have := LY2.out; have := HP.out; have := HEE.out; omega) (by have := LX1.out; have := LX2.out; have := LY1.out; have := LY2.out; have := HP.out; have := HEE.out; omega) (by have := LX1.out; have := LX2.out; have := LY1.out; have := LY2.out; have := HP.out; have := HEE.out; omega)).mono ?_; rintro e' w2 ⟨rfl, Z1, m1, o2, g2⟩; have M1 := Lib.hid m1; have O2 : Hid (OT w2 B (.slice (some ⟨g, 0, none⟩) n cap) (P ++ Z1 ++ (X2 ++ Y2 ++ Q))) := Lib.hid o2; have G2 := Lib.hid (G1.out.trans g2); have LZ : Hid (Z1.length = X1.length + Y1.length) := Lib.hid (by rw [m1.perm.length_eq]; simp); clear o2 g2 m1)
                  | (go_at_call 54; refine (HIH.out (P ++ Z1) X2 Y2 Q _ _ _ _ LEN.out.2 (fun e => by have := LX2.out; rw [e] at this; simp at this; omega) (fun e => by have := LY2.out; rw [e] at this; simp at this; omega) (HC.out.on G2.out) (by simpa using O2.out) R2.out PX2.out PY2.out XY2.out (by have := LX1.out; have := LX2.out; have := LY1.out; have := LY2.out; have := HP.out; have := HEE.out; have := LZ.out; simp; omega) (by have := LX1.out; have := LX2.out; have := LY1.out; have := LY2.out; have := HP.out; have := HEE.out; have := LZ.out; simp; omega) (by have := LX1.out; have := LX2.out; have := LY1.out; have := LY2.out; have := HP.out; have := HEE.out; have := LZ.out; simp; omega)).mono ?_; rintro e' w3 ⟨rfl, Z2, m2, o3, g3⟩; have M2 := Lib.hid m2; have O3 := Lib.hid o3; have G3 := Lib.hid (G2.out.trans g3); clear o3 g3 m2))
                all_goals (go_end0; exact ⟨rfl, Z1 ++ Z2, by rw [HXX.out, HYY.out]; exact M1.out.join M2.out CR.out, by simpa using O3.out, G3.out⟩)
              · skip
                have t1 : (s : Int) < (M : Int) := by omega
                have t2 : (M : Int) < (e : Int) := by omega
                have t4 : (s : Int) < (d : Int) := by omega
                have t5 : (d : Int) < (e : Int) := by omega
                have t3 : (p : Int) < (s : Int) := by omega
                have t6 : decide ((e : Int) < (E : Int)) = false := by simp; omega
                have M2p : Hid (Mrg C X2 Y2 (X2 ++ Y2)) := Lib.hid (by have h1 : Y2 = [] := List.eq_nil_of_length_eq_zero (by have := LY2.out; omega); rw [h1]; exact Mrg.left PX2.out)
                go_wp2_with (first
                  | (go_at_call 73; refine (rotate_any g cap n B (P ++ X1) X2 Y1 (Y2 ++ Q) _ _ _ _ wr (fun e => by have := LX2.out; rw [e] at this; simp at this; omega) (fun e => by have := LY1.out; rw [e] at this; simp at this; omega) hn2 OX.out (by have := LX1.out; have := LX2.out; have := LY1.out; have := LY2.out; have := HP.out; have := HEE.out; simp; omega) (by have := LX1.out; have := LX2.out; have := LY1.out; have := LY2.out; have := HP.out; have := HEE.out; simp; omega) (by have := LX1.out; have := LX2.out; have := LY1.out; have := LY2.out; have := HP.out; have := HEE.out; simp; omega)).mono ?_; rintro e' w1 ⟨rfl, o1, g1⟩; have O1 : Hid (OT w1 B (.slice (some ⟨g, 0, none⟩) n cap) (P ++ X1 ++ Y1 ++ (X2 ++ Y2 ++ Q))) := Lib.hid (by simpa using o1); have G1 := Lib.hid (GW.out.trans g1); clear o1 g1)
                  | (go_at_call 54; refine (HIH.out P X1 Y1 (X2 ++ Y2 ++ Q) _ _ _ _ LEN.out.1 (fun e => by have := LX1.out; rw [e] at this; simp at this; omega) (fun e => by have := LY1.out; rw [e] at this; simp at this; omega) (HC.out.on G1.out) O1.out R1.out PX1.out PY1.out XY1.out (by have := LX1.out; have := LX2.out; have := LY1.out; have := LY2.out; have := HP.out; have := HEE.out; omega) (by have := LX1.out; have := LX2.out; have := LY1.out; have := LY2.out; have := HP.out; have := HEE.out; omega) (by have := LX1.out; have := LX2.out; have := LY1.out; have := LY2.out; have := HP.out; have := HEE.out; omega)).mono ?_; rintro e' w2 ⟨rfl, Z1, m1, o2, g2⟩; have M1 := Lib.hid m1; have O2 : Hid (OT w2 B (.slice (some ⟨g, 0, none⟩) n cap) (P ++ Z1 ++ (X2 ++ Y2 ++ Q))) := Lib.hid o2; have G2 := Lib.hid (G1.out.trans g2); have LZ : Hid (Z1.length = X1.length + Y1.length) := Lib.hid (by rw [m1.perm.length_eq]; simp); clear o2 g2 m1))
                all_goals (go_end0; exact ⟨rfl, Z1 ++ (X2 ++ Y2), by rw [HXX.out, HYY.out]; exact M1.out.join M2p.out CR.out, by simpa using O2.out, G2.out⟩)
            · by_cases g6 : e < E
              · skip
                have t1 : (s : Int) < (M : Int) := by omega
                have t2 : (M : Int) < (e : Int) := by omega
                have t4 : (s : Int) < (d : Int) := by omega
                have t5 : (d : Int) < (e : Int) := by omega
                have t3 : decide ((p : Int) < (s : Int)) = false := by simp; omega
                have t6 : (e : Int) < (E : Int) := by omega
                have M1p : Hid (Mrg C X1 Y1 (X1 ++ Y1)) := Lib.hid (by have h1 : X1 = [] := List.eq_nil_of_length_eq_zero (by have := LX1.out; omega); rw [h1]; exact Mrg.right PY1.out)
                go_wp2_with (first
                  | (go_at_call 73; refine (rotate_any g cap n B (P ++ X1) X2 Y1 (Y2 ++ Q) _ _ _ _ wr (fun e => by have := LX2.out; rw [e] at this; simp at this; omega) (fun e => by have := LY1.out; rw [e] at this; simp at this; omega) hn2 OX.out (by have := LX1.out; have := LX2.out; have := LY1.out; have := LY2.out; have := HP.out; have := HEE.out; simp; omega) (by have := LX1.out; have := LX2.out; have := LY1.out; have := LY2.out; have := HP.out; have := HEE.out; simp; omega) (by have := LX1.out; have := LX2.out; have := LY1.out; have := LY2.out; have := HP.out; have := HEE.out; simp; omega)).mono ?_; rintro e' w1 ⟨rfl, o1, g1⟩; have O1 : Hid (OT w1 B (.slice (some ⟨g, 0, none⟩) n cap) (P ++ X1 ++ Y1 ++ (X2 ++ Y2 ++ Q))) := Lib.hid (by simpa using o1); have G1 := Lib.hid (GW.out.trans g1); clear o1 g1)
                  | (go_at_call 54; refine (HIH.out (P ++ (X1 ++ Y1)) X2 Y2 Q _ _ _ _ LEN.out.2 (fun e => by have := LX2.out; rw [e] at this; simp at this; omega) (fun e => by have := LY2.out; rw [e] at this; simp at this; omega) (HC.out.on G1.out) (by simpa using O1.out) R2.out PX2.out PY2.out XY2.out (by have := LX1.out; have := LX2.out; have := LY1.out; have := LY2.out; have := HP.out; have := HEE.out; simp; omega) (by have := LX1.out; have := LX2.out; have := LY1.out; have := LY2.out; have := HP.out; have := HEE.out; simp; omega) (by have := LX1.out; have := LX2.out; have := LY1.out; have := LY2.out; have := HP.out; have := HEE.out; simp; omega)).mono ?_; rintro e' w3 ⟨rfl, Z2, m2, o3, g3⟩; have M2 := Lib.hid m2; have O3 := Lib.hid o3; have G3 := Lib.hid (G1.out.trans g3); clear o3 g3 m2))
                all_goals (go_end0; exact ⟨rfl, (X1 ++ Y1) ++ Z2, by rw [HXX.out, HYY.out]; exact M1p.out.join M2.out CR.out, by simpa using O3.out, G3.out⟩)
              · skip
                have t1 : (s : Int) < (M : Int) := by omega
                have t2 : (M : Int) < (e : Int) := by omega
                have t4 : (s : Int) < (d : Int) := by omega
                have t5 : (d : Int) < (e : Int) := by omega
                have t3 : decide ((p : Int) < (s : Int)) = false := by simp; omega
                have t6 : decide ((e : Int) < (E : Int)) = false := by simp; omega
                have M1p : Hid (Mrg C X1 Y1 (X1 ++ Y1)) := Lib.hid (by have h1 : X1 = [] := List.eq_nil_of_length_eq_zero (by have := LX1.out; omega); rw [h1]; exact Mrg.right PY1.out)
                have M2p : Hid (Mrg C X2 Y2 (X2 ++ Y2)) := Lib.hid (by have h1 : Y2 = [] := List.eq_nil_of_length_eq_zero (by have := LY2.out; omega); rw [h1]; exact Mrg.left PX2.out)
                go_wp2_with (first
                  | (go_at_call 73; refine (rotate_any g cap n B (P ++ X1) X2 Y1 (Y2 ++ Q) _ _ _ _ wr (fun e => by have := LX2.out; rw [e] at this; simp at this; omega) (fun e => by have := LY1.out; rw [e] at this; simp at this; omega) hn2 OX.out (by have := LX1.out; have := LX2.out; have := LY1.out; have := LY2.out; have := HP.out; have := HEE.out; simp; omega) (by have := LX1.out; have := LX2.out; have := LY1.out; have := LY2.out; have := HP.out; have := HEE.out; simp; omega) (by have := LX1.out; have := LX2.out; have := LY1.out; have := LY2.out; have := HP.out; have := HEE.out; simp; omega)).mono ?_; rintro e' w1 ⟨rfl, o1, g1⟩; have O1 : Hid (OT w1 B (.slice (some ⟨g, 0, none⟩) n cap) (P ++ X1 ++ Y1 ++ (X2 ++ Y2 ++ Q))) := Lib.hid (by simpa using o1); have G1 := Lib.hid (GW.out.trans g1); clear o1 g1))
                all_goals (go_end0; exact ⟨rfl, (X1 ++ Y1) ++ (X2 ++ Y2), by rw [HXX.out, HYY.out]; exact M1p.out.join M2p.out CR.out, by simpa using O1.out, G1.out⟩)
          · skip
            have t1 : (s : Int) < (M : Int) := by omega
            have t2 : decide ((M : Int) < (e : Int)) = false := by simp; omega
            have t3 : (p : Int) < (s : Int) := by omega
            have t4 : decide ((s : Int) < (d : Int)) = false := by simp; omega
            have t5 : (d : Int) < (e : Int) := by omega
            have t6 : (e : Int) < (E : Int) := by omega
            have EMP : Hid (Y1 = []) := Lib.hid (List.eq_nil_of_length_eq_zero (by have := LY1.out; have := HEE.out; omega))
            have M1p : Hid (Mrg C X1 Y1 (X1 ++ Y1)) := Lib.hid (by have h1 : Y1 = [] := List.eq_nil_of_length_eq_zero (by have := LY1.out; have := HEE.out; omega); rw [h1]; exact Mrg.left PX1.out)
            have O1 : Hid (OT wr B (.slice (some ⟨g, 0, none⟩) n cap) (P ++ X1 ++ Y1 ++ (X2 ++ Y2 ++ Q))) := Lib.hid (by have h1 := OX.out; rw [EMP.out] at h1 ⊢; simpa using h1)
            have G1 := GW
            go_wp2_with (first
              | (go_at_call 54; refine (HIH.out (P ++ (X1 ++ Y1)) X2 Y2 Q _ _ _ _ LEN.out.2 (fun e => by have := LX2.out; rw [e] at this; simp at this; omega) (fun e => by have := LY2.out; rw [e] at this; simp at this; omega) (HC.out.on G1.out) (by simpa using O1.out) R2.out PX2.out PY2.out XY2.out (by have := LX1.out; have := LX2.out; have := LY1.out; have := LY2.out; have := HP.out; have := HEE.out; simp; omega) (by have := LX1.out; have := LX2.out; have := LY1.out; have := LY2.out; have := HP.out; have := HEE.out; simp; omega) (by have := LX1.out; have := LX2.out; have := LY1.out; have := LY2.out; have := HP.out; have := HEE.out; simp; omega)).mono ?_; rintro e' w3 ⟨rfl, Z2, m2, o3, g3⟩; have M2 := Lib.hid m2; have O3 := Lib.hid o3; have G3 := Lib.hid (G1.out.trans g3); clear o3 g3 m2))
            all_goals (go_end0; exact ⟨rfl, (X1 ++ Y1) ++ Z2, by rw [HXX.out, HYY.out]; exact M1p.out.join M2.out CR.out, by simpa using O3.out, G3.out⟩)
        · by_cases g2 : M < e
          · skip
            have t1 : decide ((s : Int) < (M : Int)) = false := by simp; omega
            have t3 : (p : Int) < (s : Int) := by omega
            have t4 : (s : Int) < (d : Int) := by omega
            have t5 : decide ((d : Int) < (e : Int)) = false := by simp; omega
            have EMP : Hid (X2 = []) := Lib.hid (List.eq_nil_of_length_eq_zero (by have := LX2.out; omega))
            have M2p : Hid (Mrg C X2 Y2 (X2 ++ Y2)) := Lib.hid (by have h1 : X2 = [] := List.eq_nil_of_length_eq_zero (by have := LX2.out; omega); rw [h1]; exact Mrg.right PY2.out)
            have O1 : Hid (OT wr B (.slice (some ⟨g, 0, none⟩) n cap) (P ++ X1 ++ Y1 ++ (X2 ++ Y2 ++ Q))) := Lib.hid (by have h1 := OX.out; rw [EMP.out] at h1 ⊢; simpa using h1)
            have G1 := GW
            go_wp2_with (first
              | (go_at_call 54; refine (HIH.out P X1 Y1 (X2 ++ Y2 ++ Q) _ _ _ _ LEN.out.1 (fun e => by have := LX1.out; rw [e] at this; simp at this; omega) (fun e => by have := LY1.out; rw [e] at this; simp at this; omega) (HC.out.on G1.out) O1.out R1.out PX1.out PY1.out XY1.out (by have := LX1.out; have := LX2.out; have := LY1.out; have := LY2.out; have := HP.out; have := HEE.out; omega) (by have := LX1.out; have := LX2.out; have := LY1.out; have := LY2.out; have := HP.out; have := HEE.out; omega) (by have := LX1.out; have := LX2.out; have := LY1.out; have := LY2.out; have := HP.out; have := HEE.out; omega)).mono ?_; rintro e' w2 ⟨rfl, Z1, m1, o2, g2⟩; have M1 := Lib.hid m1; have O2 : Hid (OT w2 B (.slice (some ⟨g, 0, none⟩) n cap) (P ++ Z1 ++ (X2 ++ Y2 ++ Q))) := Lib.hid o2; have G2 := Lib.hid (G1.out.trans g2); have LZ : Hid (Z1.length = X1.length + Y1.length) := Lib.hid (by rw [m1.perm.length_eq]; simp); clear o2 g2 m1))
            all_goals (go_end0; exact ⟨rfl, Z1 ++ (X2 ++ Y2), by rw [HXX.out, HYY.out]; exact M1.out.join M2p.out CR.out, by simpa using O2.out, G2.out⟩)
          · skip
            have t1 : decide ((s : Int) < (M : Int)) = false := by simp; omega
            have t3 : (p : Int) < (s : Int) := by omega
            have t4 : decide ((s : Int) < (d : Int)) = false := by simp; omega
            have t5 : decide ((d : Int) < (e : Int)) = false := by simp; omega
            have EMP : Hid (X2 = []) := Lib.hid (List.eq_nil_of_length_eq_zero (by have := LX2.out; omega))
            have M1p : Hid (Mrg C X1 Y1 (X1 ++ Y1)) := Lib.hid (by have h1 : Y1 = [] := List.eq_nil_of_length_eq_zero (by have := LY1.out; have := HEE.out; omega); rw [h1]; exact Mrg.left PX1.out)
            have M2p : Hid (Mrg C X2 Y2 (X2 ++ Y2)) := Lib.hid (by have h1 : X2 = [] := List.eq_nil_of_length_eq_zero (by have := LX2.out; omega); rw [h1]; exact Mrg.right PY2.out)
            have O1 : Hid (OT wr B (.slice (some ⟨g, 0, none⟩) n cap) (P ++ X1 ++ Y1 ++ (X2 ++ Y2 ++ Q))) := Lib.hid (by have h1 := OX.out; rw [EMP.out] at h1 ⊢; simpa using h1)
            have G1 := GW
            go_wp2
            all_goals (go_end0; exact ⟨rfl, (X1 ++ Y1) ++ (X2 ++ Y2), by rw [HXX.out, HYY.out]; exact M1p.out.join M2p.out CR.out, by simpa using O1.out, G1.out⟩)
end Go.Proofs.Ytejipflkdigbbaa
