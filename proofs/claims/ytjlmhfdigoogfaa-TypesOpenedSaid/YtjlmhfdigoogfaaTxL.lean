/- Walks: Print (35, 36). -/
import Derived.Test.YtjlmhfdigoogfaaTxK
namespace Go.Proofs.Ytjlmhfdigoogfaa
open Go.RowKit

/-- What Print answers. -/
def prE (n : Int) (t : PT) : T × Int := if ck t ≠ 0 then ([], ck t) else if sval n t = false then ([], 1) else if ∀ u ∈ sn [] t, u < n ∧ u < 26 then (txt t, 0) else ([], 2)
def PrP (w : World) (R : T × Int) (e : Ending) (w' : World) : Prop := e = .returned (.tuple #[tv R.1, iv R.2]) ∧ Gr w w'
attribute [local irreducible] Calls in
set_option maxRecDepth 100000 in
set_option maxHeartbeats 4000000 in
theorem print_any (n : Int) (x : Ty) (w : World) (hx : x.Rd w) : Calls Try.prog 35 #[.agg #[iv n, iv x.kind, iv x.var, .slice x.A x.sub.length x.c]] w (PrP w (prE n x.er)) := by
  have CK := Lib.hid (fun V (g : Gr w V) => check_any x V (TRd.gr hx g))
  have CV := Lib.hid (fun V (g : Gr w V) => valid_any ⟨n, x⟩ V (TRd.gr hx g))
  have BX := Lib.hid (B4.of n x.kind x.var (.slice x.A x.sub.length x.c) w)
  obtain ⟨b0, b1, b2, b3⟩ := BX.out.c
  have PE := Lib.hid (show prE n x.er = if ck x.er ≠ 0 then ([], ck x.er) else if sval n x.er = false then ([], 1) else if ∀ u ∈ sn [] x.er, u < n ∧ u < 26 then (txt x.er, 0) else ([], 2) from rfl)
  obtain ⟨q, hq⟩ : ∃ q, ck x.er = q := ⟨_, rfl⟩
  obtain ⟨sv, hsv⟩ : ∃ q, sval n x.er = q := ⟨_, rfl⟩
  obtain ⟨R, hR⟩ : ∃ R, prE n x.er = R := ⟨_, rfl⟩
  rw [hq, hsv, hR] at PE
  rw [hR]
  simp only [hq, hsv, Sc.v] at CK CV
  clear hR
  by_cases h0 : q = 0
  · subst h0
    rw [if_neg (by simp)] at PE
    cases sv with
    | false =>
      rw [if_pos rfl] at PE
      have hPE := PE.out
      subst hPE
      clear PE hq hsv hx
      unfold Ty.v at *
      go_enter Try.func35, Try.ntmps35
      go_wp2_with ((first | (go_at_call 17; refine (CK.out _ BX.out.gr).mono ?_; rintro e w1 ⟨rfl, g1⟩; have G1 := Lib.hid (BX.out.grow g1); clear g1 b0 b1 b2 b3; obtain ⟨b0, b1, b2, b3⟩ := G1.out.c) | (go_at_call 66; refine (CV.out _ G1.out.gr).mono ?_; rintro e w2 ⟨rfl, g2⟩; have G2 := Lib.hid (G1.out.grow g2); clear g2)))
      go_ret2
      exact ⟨rfl, G2.out.gr⟩
    | true =>
      rw [if_neg (by simp)] at PE
      have hz := ck_cke hq
      have CT := Lib.hid (fun (h : ∀ u ∈ sn [] x.er, u < n ∧ u < 26) V (g : Gr w V) => text_73 x V (TRd.gr hx g) ⟨hz.1, fun u hu => by have := (h u (by rw [mem_sn]; exact .inr hu)).2; omega⟩ (by omega))
      have HALL := Lib.hid (fun h : ∀ u ∈ sn [] x.er, u < n ∧ u < 26 => PE.out.trans (if_pos h))
      have HANY := Lib.hid (fun h : ¬ ∀ u ∈ sn [] x.er, u < n ∧ u < 26 => PE.out.trans (if_neg h))
      have LN := Lib.hid (show (sn [] x.er).length ≤ 1000 by have := sn_len [] x.er; simp at this; omega)
      have OD := Lib.hid (fun V (g : Gr w V) => order_any x V (TRd.gr hx g) (by omega))
      have SVL := Lib.hid (sval_bd hsv)
      obtain ⟨l, hl⟩ : ∃ l, sn [] x.er = l := ⟨_, rfl⟩
      rw [hl] at OD LN CT HALL HANY
      clear hq hx hz hl hsv PE
      unfold Ty.v at *
      go_enter Try.func35, Try.ntmps35
      go_wp2_with ((first | (go_at_call 17; refine (CK.out _ BX.out.gr).mono ?_; rintro e w1 ⟨rfl, g1⟩; have G1 := Lib.hid (BX.out.grow g1); clear g1 b0 b1 b2 b3; obtain ⟨b0, b1, b2, b3⟩ := G1.out.c) | (go_at_call 66; refine (CV.out _ G1.out.gr).mono ?_; rintro e w2 ⟨rfl, g2⟩; have G2 := Lib.hid (G1.out.grow g2); clear g2 b0 b1 b2 b3; obtain ⟨b0, b1, b2, b3⟩ := G2.out.c) | (go_at_call 56; refine (OD.out _ G2.out.gr).mono ?_; rintro e w3 ⟨⟨v, rfl, o2⟩, g2⟩; have G3 := Lib.hid (G2.out.grow g2); obtain ⟨A, c, rfl, hrd⟩ := o2.form NC_len; have HR := Lib.hid hrd; clear g2 o2 hrd b0 b1 b2 b3)))
      have ls := LN.out
      go_loopw [20] (fun i V => ∃ (k : Nat), k ≤ l.length ∧ i = .int .i64 k ∧ Hid (V = w3 ∧ ∀ j (hj : j < l.length), j < k → l[j] < n ∧ l[j] < 26)) (fun i _ => l.length - (intOf i).toNat)
      case atStart => exact ⟨0, Nat.zero_le _, rfl, Lib.hid ⟨rfl, fun j _ h => absurd h (Nat.not_lt_zero _)⟩⟩
      case round =>
        obtain ⟨k, hk, rfl, HG⟩ := hrel
        obtain rfl := HG.out.1
        obtain ⟨b0, b1, b2, b3⟩ := G3.out.c
        by_cases hlt : k < l.length
        · obtain ⟨a, rfl, hab, c0⟩ := HR.out.num hlt
          have NX := Lib.hid (fun (h : l[k] < n ∧ l[k] < 26) => show ∀ j (hj : j < l.length), j < k + 1 → l[j] < n ∧ l[j] < 26 from fun j hj hjk => by
            rcases Nat.lt_succ_iff_lt_or_eq.1 hjk with h' | rfl
            · exact HG.out.2 j hj h'
            · exact h)
          have NY := Lib.hid (fun (h : ¬ (l[k] < n ∧ l[k] < 26)) => HANY.out fun ha => h (ha _ (List.getElem_mem hlt)))
          generalize l[k] = z at *
          by_cases hz : z < n
          · by_cases hzm : z < 26
            · go_wp2
              exact ⟨⟨k + 1, by omega, by simp, Lib.hid ⟨trivial, NX.out ⟨hz, hzm⟩⟩⟩, by simp [intOf]; omega⟩
            · have hR := NY.out (fun h => hzm h.2)
              subst hR
              clear NX NY HALL HANY
              go_wp2
              go_ret2
              exact ⟨rfl, G3.out.gr⟩
          · have hR := NY.out (fun h => hz h.1)
            subst hR
            clear NX NY HALL HANY
            go_wp2
            go_ret2
            exact ⟨rfl, G3.out.gr⟩
        · obtain rfl : l.length = k := by omega
          have ha : ∀ u ∈ l, u < n ∧ u < 26 := fun u hu => by
            obtain ⟨j, hj, rfl⟩ := List.getElem_of_mem hu
            exact HG.out.2 j hj hj
          have hR := HALL.out ha
          subst hR
          have CT2 := Lib.hid (CT.out ha)
          clear HALL HANY CT ha HG
          go_wp2_with ((first | (go_at_call 73; refine (CT2.out _ G3.out.gr).mono ?_; rintro e w4 ⟨rfl, g4⟩; have G4 := Lib.hid (G3.out.gr.trans g4); clear g4)))
          go_ret2
          exact ⟨rfl, G4.out⟩
  · rw [if_pos h0] at PE
    have hPE := PE.out
    subst hPE
    have hb : (q != 0) = true := by simpa using h0
    clear PE hq hsv hx h0
    unfold Ty.v at *
    go_enter Try.func35, Try.ntmps35
    go_wp2_with ((first | (go_at_call 17; refine (CK.out _ BX.out.gr).mono ?_; rintro e w1 ⟨rfl, g1⟩; have G1 := Lib.hid (BX.out.grow g1); clear g1)))
    go_ret2
    exact ⟨rfl, G1.out.gr⟩
theorem vl_filter (n : Int) : ∀ (l : List Int) (a m : Int), l.foldl (vst n) (some a) = some m → ∃ k : Nat, m = a + k ∧ l.filter (fun u => decide (u < n)) = (List.range k).map fun i : Nat => a + (i : Int)
  | [], a, m, h => by
    cases h
    exact ⟨0, by simp, by simp⟩
  | x :: l, a, m, h => by
    rw [List.foldl_cons, vst_some] at h
    by_cases hx : x < n
    · rw [if_pos hx] at h
      by_cases he : x = a
      · rw [if_pos he] at h
        subst he
        obtain ⟨k, hk, hl⟩ := vl_filter n l _ m h
        refine ⟨k + 1, by omega, ?_⟩
        rw [List.filter_cons, if_pos (by simpa using hx), hl, List.range_succ_eq_map, List.map_cons, List.map_map]
        congr 1
        · simp
        · apply List.map_congr_left
          intro i _
          simp
          omega
      · rw [if_neg he, vl_none] at h
        cases h
    · rw [if_neg hx] at h
      obtain ⟨k, hk, hl⟩ := vl_filter n l _ m h
      exact ⟨k, hk, by rw [List.filter_cons, if_neg (by simpa using hx), hl]⟩
theorem sval_vl {n : Int} {t : PT} (h : sval n t = true) : ∃ k : Nat, n = k ∧ (sn [] t).filter (fun u => decide (u < n)) = (List.range k).map fun i : Nat => (i : Int) := by
  have h2 : vl n (sn [] t) = some n := by
    unfold sval at h
    simp only [Bool.and_eq_true, decide_eq_true_eq, beq_iff_eq] at h
    exact h.2
  obtain ⟨k, hk, hl⟩ := vl_filter n _ _ _ h2
  exact ⟨k, by omega, by simpa using hl⟩
theorem own_all {n : Int} {t : PT} (h : sval n t = true) : (((sn [] t).length : Int) ≤ n ↔ ∀ u ∈ sn [] t, u < n) := by
  obtain ⟨k, rfl, hl⟩ := sval_vl h
  have h1 := congrArg List.length hl
  simp only [List.length_map, List.length_range] at h1
  constructor
  · intro h2 u hu
    have h3 := List.length_filter_le (fun u : Int => decide (u < (k : Int))) (sn [] t)
    have h4 : ((sn [] t).filter (fun u => decide (u < (k : Int)))).length = (sn [] t).length := by omega
    have h5 := (List.length_filter_eq_length_iff.1 h4) u hu
    simpa using h5
  · intro h2
    have h4 := List.length_filter_eq_length_iff.2 (fun u hu => by simpa using h2 u hu : ∀ u ∈ sn [] t, (fun u : Int => decide (u < (k : Int))) u = true)
    omega
theorem own_is {n : Int} {t : PT} (h : sval n t = true) (ha : ∀ u ∈ sn [] t, u < n) : ∃ k : Nat, n = k ∧ sn [] t = (List.range k).map fun i : Nat => (i : Int) := by
  obtain ⟨k, rfl, hl⟩ := sval_vl h
  refine ⟨k, rfl, ?_⟩
  rw [← hl]
  exact (List.filter_eq_self.2 fun u hu => by simpa using ha u hu).symm
theorem print_iff {n : Int} {t : PT} (h : sval n t = true) : (((sn [] t).length : Int) ≤ n ∧ n ≤ 26) ↔ ∀ u ∈ sn [] t, u < n ∧ u < 26 := by
  rw [own_all h]
  constructor
  · intro h2 u hu
    have := h2.1 u hu
    omega
  · intro h2
    have ha : ∀ u ∈ sn [] t, u < n := fun u hu => (h2 u hu).1
    refine ⟨ha, ?_⟩
    obtain ⟨k, rfl, hl⟩ := own_is h ha
    rcases Nat.lt_or_ge 26 k with hk | hk
    · have := (h2 26 (by rw [hl]; exact List.mem_map.2 ⟨26, by simpa using hk, rfl⟩)).2
      omega
    · omega
attribute [local irreducible] Calls in
set_option maxRecDepth 100000 in
set_option maxHeartbeats 4000000 in
theorem rprint_any (n : Int) (x : Ty) (w : World) (hx : x.Rd w) : Calls Try.prog 36 #[.agg #[iv n, iv x.kind, iv x.var, .slice x.A x.sub.length x.c]] w (PrP w (prE n x.er)) := by
  have CK := Lib.hid (fun V (g : Gr w V) => rCheck_any x V (TRd.gr hx g))
  have CV := Lib.hid (fun V (g : Gr w V) => rvalid_any ⟨n, x⟩ V (TRd.gr hx g))
  have BX := Lib.hid (B4.of n x.kind x.var (.slice x.A x.sub.length x.c) w)
  obtain ⟨b0, b1, b2, b3⟩ := BX.out.c
  have PE := Lib.hid (show prE n x.er = if ck x.er ≠ 0 then ([], ck x.er) else if sval n x.er = false then ([], 1) else if ∀ u ∈ sn [] x.er, u < n ∧ u < 26 then (txt x.er, 0) else ([], 2) from rfl)
  obtain ⟨q, hq⟩ : ∃ q, ck x.er = q := ⟨_, rfl⟩
  obtain ⟨sv, hsv⟩ : ∃ q, sval n x.er = q := ⟨_, rfl⟩
  obtain ⟨R, hR⟩ : ∃ R, prE n x.er = R := ⟨_, rfl⟩
  rw [hq, hsv, hR] at PE
  rw [hR]
  simp only [hq, hsv, Sc.v] at CK CV
  clear hR
  by_cases h0 : q = 0
  · subst h0
    rw [if_neg (by simp)] at PE
    cases sv with
    | false =>
      rw [if_pos rfl] at PE
      have hPE := PE.out
      subst hPE
      clear PE hq hsv hx
      unfold Ty.v at *
      go_enter Try.func36, Try.ntmps36
      go_wp2_with ((first | (go_at_call 18; refine (CK.out _ BX.out.gr).mono ?_; rintro e w1 ⟨rfl, g1⟩; have G1 := Lib.hid (BX.out.grow g1); clear g1 b0 b1 b2 b3; obtain ⟨b0, b1, b2, b3⟩ := G1.out.c) | (go_at_call 68; refine (CV.out _ G1.out.gr).mono ?_; rintro e w2 ⟨rfl, g2⟩; have G2 := Lib.hid (G1.out.grow g2); clear g2)))
      go_ret2
      exact ⟨rfl, G2.out.gr⟩
    | true =>
      rw [if_neg (by simp)] at PE
      have hz := ck_cke hq
      have CT := Lib.hid (fun (h : ∀ u ∈ sn [] x.er, u < n ∧ u < 26) V (g : Gr w V) => text_74 x V (TRd.gr hx g) ⟨hz.1, fun u hu => by have := (h u (by rw [mem_sn]; exact .inr hu)).2; omega⟩ (by omega))
      have HALL := Lib.hid (fun h : ∀ u ∈ sn [] x.er, u < n ∧ u < 26 => PE.out.trans (if_pos h))
      have HANY := Lib.hid (fun h : ¬ ∀ u ∈ sn [] x.er, u < n ∧ u < 26 => PE.out.trans (if_neg h))
      have LN := Lib.hid (show (sn [] x.er).length ≤ 1000 by have := sn_len [] x.er; simp at this; omega)
      have OD := Lib.hid (fun V (g : Gr w V) => seen0_any x V (TRd.gr hx g) (by omega))
      have SVL := Lib.hid (sval_bd hsv)
      have PI := Lib.hid (print_iff hsv)
      have IFA : Hid (∀ (h : ((sn [] x.er).length : Int) ≤ n ∧ n ≤ 26), R = (txt x.er, 0)) := Lib.hid fun h => HALL.out (PI.out.1 h)
      have CT2 : Hid (∀ (h : ((sn [] x.er).length : Int) ≤ n ∧ n ≤ 26) V (g : Gr w V), Calls Try.prog 74 #[x.v] V fun e w' => e = .returned (tv (txt x.er)) ∧ Gr V w') := Lib.hid fun h V g => CT.out (PI.out.1 h) V g
      have IFN : Hid (∀ (h : ¬ (((sn [] x.er).length : Int) ≤ n ∧ n ≤ 26)), R = ([], 2)) := Lib.hid fun h => HANY.out (fun h2 => h (PI.out.2 h2))
      obtain ⟨N, hN⟩ : ∃ N, (sn [] x.er).length = N := ⟨_, rfl⟩
      rw [hN] at OD LN CT2 IFA IFN
      clear hq hx hz hN hsv PE CT HALL HANY PI
      unfold Ty.v at *
      have KS0 := Lib.hid (fun (V : World) (h : B4 n x.kind x.var (.slice x.A x.sub.length x.c) w V) => h.c)
      go_enter Try.func36, Try.ntmps36
      go_upto_region 6 with ((first | (go_at_call 18; refine (CK.out _ BX.out.gr).mono ?_; rintro e w1 ⟨rfl, g1⟩; have G1 := Lib.hid (BX.out.grow g1); clear g1 b0 b1 b2 b3; obtain ⟨b0, b1, b2, b3⟩ := G1.out.c) | (go_at_call 68; refine (CV.out _ G1.out.gr).mono ?_; rintro e w2 ⟨rfl, g2⟩; have G2 := Lib.hid (G1.out.grow g2); clear g2 b0 b1 b2 b3)))
      have KS := Lib.hid (fun (V : World) (g : Gr w2 V) => (G2.out.grow g).c)
      have ls := LN.out
      by_cases hA : (N : Int) ≤ n
      · have hA1 : decide (n < (N : Int)) = false := decide_eq_false (by omega)
        by_cases hB : n ≤ 26
        · have hB1 : decide (26 < n) = false := decide_eq_false (by omega)
          have hR := IFA.out ⟨hA, hB⟩
          subst hR
          have CT3 := Lib.hid (CT2.out ⟨hA, hB⟩)
          clear IFN IFA CT2
          go_region_held3 (fun V => V.cell? ⟨w.heap.size, 0, none⟩ = some (iv n) ∧ V.cell? ⟨w.heap.size, 1, none⟩ = some (iv x.kind) ∧ V.cell? ⟨w.heap.size, 2, none⟩ = some (iv x.var) ∧ V.cell? ⟨w.heap.size, 3, none⟩ = some (.slice x.A x.sub.length x.c)) (first | with_reducible exact KS.out _ Z1.out | with_reducible exact KS.out _ (gr_drew _) | with_reducible exact KS.out _ (gr_refl _) | go_keep) (first | (go_at_call 57; (with_reducible refine (OD.out _ (G2.out.gr.trans (gr_drew _))).mono ?_); rintro e z1 ⟨⟨A, c, rfl⟩, g⟩; have Z1 := Lib.hid ((gr_drew w2).trans g); clear g))
          go_wp2_with ((first | (go_at_call 74; refine (CT3.out _ (G2.out.gr.trans Z1.out)).mono ?_; rintro e w4 ⟨rfl, g4⟩; have G4 := Lib.hid ((G2.out.gr.trans Z1.out).trans g4); clear g4)))
          go_ret2
          exact ⟨rfl, G4.out⟩
        · have hB1 : decide (26 < n) = true := decide_eq_true (by omega)
          have hR := IFN.out (fun h => hB h.2)
          subst hR
          clear IFN IFA CT2
          go_region_held3 (fun V => V.cell? ⟨w.heap.size, 0, none⟩ = some (iv n) ∧ V.cell? ⟨w.heap.size, 1, none⟩ = some (iv x.kind) ∧ V.cell? ⟨w.heap.size, 2, none⟩ = some (iv x.var) ∧ V.cell? ⟨w.heap.size, 3, none⟩ = some (.slice x.A x.sub.length x.c)) (first | with_reducible exact KS.out _ Z1.out | with_reducible exact KS.out _ (gr_drew _) | with_reducible exact KS.out _ (gr_refl _) | go_keep) (first | (go_at_call 57; (with_reducible refine (OD.out _ (G2.out.gr.trans (gr_drew _))).mono ?_); rintro e z1 ⟨⟨A, c, rfl⟩, g⟩; have Z1 := Lib.hid ((gr_drew w2).trans g); clear g))
          go_wp2
          go_ret2
          exact ⟨rfl, G2.out.gr.trans Z1.out⟩
      · have hA1 : decide (n < (N : Int)) = true := decide_eq_true (by omega)
        have hR := IFN.out (fun h => hA h.1)
        subst hR
        clear IFN IFA CT2
        obtain ⟨b0, b1, b2, b3⟩ := KS.out _ (gr_drew _)
        (first | (go_region_with ((first | (go_at_call 57; (with_reducible refine (OD.out _ (G2.out.gr.trans (gr_drew _))).mono ?_); rintro e z1 ⟨⟨A, c, rfl⟩, g⟩; have Z1 := Lib.hid ((gr_drew w2).trans g); obtain ⟨y0, y1, y2, y3⟩ := KS.out _ Z1.out; clear g)))) | fail)
        all_goals go_wp2
        all_goals go_ret2
        all_goals exact ⟨rfl, G2.out.gr.trans Z1.out⟩
  · rw [if_pos h0] at PE
    have hPE := PE.out
    subst hPE
    have hb : (q != 0) = true := by simpa using h0
    clear PE hq hsv hx h0
    unfold Ty.v at *
    go_enter Try.func36, Try.ntmps36
    go_wp2_with ((first | (go_at_call 18; refine (CK.out _ BX.out.gr).mono ?_; rintro e w1 ⟨rfl, g1⟩; have G1 := Lib.hid (BX.out.grow g1); clear g1)))
    go_ret2
    exact ⟨rfl, G1.out.gr⟩
end Go.Proofs.Ytjlmhfdigoogfaa
