/- The law TypesGeneral (6). -/
import Derived.Test.YtjlmhfdigoogfaaLawP
import Derived.Test.YtjlmhfdigoogfaaTun
namespace Go.Proofs.Ytjlmhfdigoogfaa
open Go.RowKit

/-- Two types in a row. -/
theorem row2 {V : World} {x y : Ty} {k : Nat} {t : TypeId} (h : V.heap[k]? = some (.cells #[iv x.kind, iv x.var, .slice x.A x.sub.length x.c, iv y.kind, iv y.var, .slice y.A y.sub.length y.c] t (0, 0))) (hx : x.Rd V) (hy : y.Rd V) : TRd V (some ⟨k, 0, none⟩) 2 [x, y] :=
  TRd.row (L := [x, y]) (t := t) (by simpa [Ty.cs] using h) (by simp) (by omega) (by simpa using ⟨hx, hy⟩)
theorem great_two (x y : Ty) (V : World) (hx : x.Rd V) (hy : y.Rd V) (k : Nat) (h : V.heap[k]? = some (.cells #[iv x.kind, iv x.var, .slice x.A x.sub.length x.c, iv y.kind, iv y.var, .slice y.A y.sub.length y.c] 24 (0, 0))) : Calls Try.prog 12 #[.slice (some ⟨k, 0, none⟩) 2 2] V (fun e w' => e = .returned (.bool (grt x.er || grt y.er)) ∧ Gr V w') := by
  have h1 := great_any (some ⟨k, 0, none⟩) 2 [x, y] V (row2 h hx hy)
  simpa using h1
theorem same_two (p q : Ty) (V : World) (hp : p.Rd V) (hq : q.Rd V) : Calls Try.prog 25 #[.agg #[iv p.kind, iv p.var, .slice p.A p.sub.length p.c], .agg #[iv q.kind, iv q.var, .slice q.A q.sub.length q.c]] V (fun e w' => e = .returned (.bool (p.er.seq q.er)) ∧ Gr V w') := same_any p q V hp hq
theorem apply_two (A : Option Addr) (c : Nat) (L : List As) (x : Ty) (V : World) (hL : ARd V A L) (hl : L.length ≤ 1000000) (hx : x.Rd V) : Calls Try.prog 23 #[.slice A L.length c, .agg #[iv x.kind, iv x.var, .slice x.A x.sub.length x.c]] V (ApP V (apE (L.map As.er) x.er)) := apply_any A c L x V hL hl hx
set_option maxRecDepth 100000 in
set_option maxHeartbeats 8000000 in
theorem law_general_any (a b : Ty) (A : Option Addr) (c : Nat) (L : List As) (w : World) (ha : a.Rd w) (hb : b.Rd w) (hL : ARd w A L) (hl : L.length ≤ 9223372036854775807) : Calls Try.prog 6 #[a.v, b.v, .slice A L.length c] w fun e w' => e = .returned (.bool true) ∧ Gr w w' := by
  have AW := Lib.hid awake_any
  have C12 := Lib.hid (fun V k (g : Gr w V) => great_two a b V (TRd.gr ha g) (TRd.gr hb g) k)
  have C22 := Lib.hid (fun V (g : Gr w V) => large_any A c L V (hL.gr g) hl)
  have HL1 := Lib.hid (show lrg (L.map As.er) = false → L.length ≤ 10 from by unfold lrg; simp)
  have CA := Lib.hid (fun V (g : Gr w V) (h : L.length ≤ 10) => apply_two A c L a V (hL.gr g) (by omega) (TRd.gr ha g))
  have CB := Lib.hid (fun V (g : Gr w V) (h : L.length ≤ 10) => apply_two A c L b V (hL.gr g) (by omega) (TRd.gr hb g))
  have CX := Lib.hid (fun (x : Ty) V (g : Gr w V) (h : L.length ≤ 10) (hx : x.Rd V) => apply_two A c L x V (hL.gr g) (by omega) hx)
  have CU := Lib.hid (fun V (g : Gr w V) => show Calls Try.prog 14 #[.agg #[iv a.kind, iv a.var, .slice a.A a.sub.length a.c], .agg #[iv b.kind, iv b.var, .slice b.A b.sub.length b.c]] V (AsP V (uans a.er b.er).1 (uans a.er b.er).2) from unify_asp a b V (TRd.gr ha g) (TRd.gr hb g))
  have C25 := Lib.hid same_two
  have VA := Lib.hid var_any
  obtain ⟨s, hs⟩ : ∃ s, L.map As.er = s := ⟨_, rfl⟩
  simp only [hs] at C22 HL1 CA CB CX
  have GEN := Lib.hid (fun h1 h2 h3 => general (a := a.er) (b := b.er) (s := s) h1 h2 h3)
  have HUL := Lib.hid (uans_len a.er b.er)
  obtain ⟨Ra, hRa⟩ : ∃ R, apE s a.er = R := ⟨_, rfl⟩
  obtain ⟨Rb, hRb⟩ : ∃ R, apE s b.er = R := ⟨_, rfl⟩
  obtain ⟨U, hU⟩ : ∃ U, uans a.er b.er = U := ⟨_, rfl⟩
  simp only [hRa, hRb, hU] at CA CB CU GEN HUL
  obtain ⟨xa, ea⟩ := Ra
  obtain ⟨xb, eb⟩ := Rb
  obtain ⟨u, eu⟩ := U
  simp only at CU GEN HUL
  obtain ⟨N, hN⟩ : ∃ N, L.length = N := ⟨_, rfl⟩
  simp only [hN] at C22 HL1 CA CB CX ⊢
  have HB := Lib.hid (gr_h (gr_al (w.alloc (.cells #[iv a.kind, iv a.var, .slice a.A a.sub.length a.c] 24)) (.cells #[iv b.kind, iv b.var, .slice b.A b.sub.length b.c] 24)) (al_new w (.cells #[iv a.kind, iv a.var, .slice a.A a.sub.length a.c] 24)))
  have HB2 := Lib.hid (al_at (w.alloc (.cells #[iv a.kind, iv a.var, .slice a.A a.sub.length a.c] 24)) (.cells #[iv b.kind, iv b.var, .slice b.A b.sub.length b.c] 24) (A := w.heap.size + 1) (by simp))
  have GB := Lib.hid (show Gr w ((w.alloc (.cells #[iv a.kind, iv a.var, .slice a.A a.sub.length a.c] 24)).alloc (.cells #[iv b.kind, iv b.var, .slice b.A b.sub.length b.c] 24)) from (gr_al _ _).trans (gr_al _ _))
  unfold Ty.v
  obtain ⟨g, hg⟩ : ∃ g, (grt a.er || grt b.er) = g := ⟨_, rfl⟩
  simp only [hg] at C12
  obtain ⟨l, hl2⟩ : ∃ l, lrg s = l := ⟨_, rfl⟩
  simp only [hl2] at C22 HL1
  clear hg hl2 ha hb hL hs hRa hRb hU hN hl
  cases g with
  | true =>
    go_enter Try.func6, Try.ntmps6
    go_wp2_with (first | (go_at_call 12; (with_reducible refine (C12.out _ _ ((gr_al _ _).trans ((gr_al _ _).trans (gr_al _ _))) (al_at _ _ (by simp))).mono ?_); rintro e v1 ⟨rfl, g1⟩; have G1 := Lib.hid (((gr_al _ _).trans ((gr_al _ _).trans (gr_al _ _))).trans g1); have H1 := Lib.hid ((gr_al _ _).trans g1); clear g1) | (go_at_call 13; (with_reducible refine (AW.out _).mono ?_); rintro e v2 ⟨rfl, g2⟩; have G2 := Lib.hid (G1.out.trans g2); clear g2))
    go_ret
    exact ⟨rfl, G2.out⟩
  | false =>
    cases l with
    | true =>
      go_enter Try.func6, Try.ntmps6
      go_wp2_with (first | (go_at_call 12; (with_reducible refine (C12.out _ _ ((gr_al _ _).trans ((gr_al _ _).trans (gr_al _ _))) (al_at _ _ (by simp))).mono ?_); rintro e v1 ⟨rfl, g1⟩; have G1 := Lib.hid (((gr_al _ _).trans ((gr_al _ _).trans (gr_al _ _))).trans g1); have H1 := Lib.hid ((gr_al _ _).trans g1); clear g1) | (go_at_call 22; (with_reducible refine (C22.out _ G1.out).mono ?_); rintro e v3 ⟨rfl, g3⟩; have G3 := Lib.hid (G1.out.trans g3); clear g3) | (go_at_call 13; (with_reducible refine (AW.out _).mono ?_); rintro e v2 ⟨rfl, g2⟩; have G2 := Lib.hid (G3.out.trans g2); clear g2))
      go_ret
      exact ⟨rfl, G2.out⟩
    | false =>
      have HN := Lib.hid (HL1.out rfl)
      clear HL1
      go_enter Try.func6, Try.ntmps6
      go_upto_region 3 with (first | (go_at_call 12; (with_reducible refine (C12.out _ _ ((gr_al _ _).trans ((gr_al _ _).trans (gr_al _ _))) (al_at _ _ (by simp))).mono ?_); rintro e v1 ⟨rfl, g1⟩; have G1 := Lib.hid (((gr_al _ _).trans ((gr_al _ _).trans (gr_al _ _))).trans g1); have H1 := Lib.hid ((gr_al _ _).trans g1); clear g1) | (go_at_call 22; (with_reducible refine (C22.out _ G1.out).mono ?_); rintro e v3 ⟨rfl, g3⟩; have G3 := Lib.hid (G1.out.trans g3); have H3 := Lib.hid (H1.out.trans g3); clear g3))
      have HX := Lib.hid (fun V (g : Gr v3 V) => (⟨(cell3 (gr_h (H3.out.trans g) HB.out)).1, (cell3 (gr_h (H3.out.trans g) HB2.out)).1⟩ : (V.cell? ⟨w.heap.size, 0, none⟩ = some (iv a.kind) ∧ V.cell? ⟨w.heap.size, 1, none⟩ = some (iv a.var) ∧ V.cell? ⟨w.heap.size, 2, none⟩ = some (.slice a.A a.sub.length a.c)) ∧ V.cell? ⟨w.heap.size + 1, 0, none⟩ = some (iv b.kind) ∧ V.cell? ⟨w.heap.size + 1, 1, none⟩ = some (iv b.var) ∧ V.cell? ⟨w.heap.size + 1, 2, none⟩ = some (.slice b.A b.sub.length b.c)))
      obtain ⟨⟨a0, a1, a2⟩, b0, b1, b2⟩ := HX.out _ (gr_refl _)
      go_upto_region 4 with (first | (go_at_call 23; (with_reducible refine (CA.out _ G3.out HN.out).mono ?_); rintro e v4 ⟨p, rfl, hp, ep, g4⟩; have HA := Lib.hid (al_new v4 (.cells #[iv p.kind, iv p.var, .slice p.A p.sub.length p.c] 24)); have HP := Lib.hid (TRd.gr hp (gr_al v4 (.cells #[iv p.kind, iv p.var, .slice p.A p.sub.length p.c] 24))); have EP := Lib.hid ep; have G4 := Lib.hid (g4.trans (gr_al v4 (.cells #[iv p.kind, iv p.var, .slice p.A p.sub.length p.c] 24))); clear hp ep g4))
      generalize hW5 : World.alloc v4 _ = W5 at *
      clear hW5 a0 a1 a2 b0 b1 b2
      obtain ⟨k5, hk5⟩ : ∃ k, v4.heap.size = k := ⟨_, rfl⟩
      have HA := Lib.hid (show W5.heap[k5]? = some (.cells #[iv p.kind, iv p.var, .slice p.A p.sub.length p.c] 24 (0, 0)) from by rw [← hk5]; exact HA.out)
      rw [hk5]
      clear hk5
      obtain ⟨⟨a0, a1, a2⟩, b0, b1, b2⟩ := HX.out _ G4.out
      go_upto_region 5 with (first | (go_at_call 23; (with_reducible refine (CB.out _ (G3.out.trans G4.out) HN.out).mono ?_); rintro e v6 ⟨q, rfl, hq, eq, g6⟩; have HC := Lib.hid (al_new v6 (.cells #[iv q.kind, iv q.var, .slice q.A q.sub.length q.c] 24)); have HQ := Lib.hid (TRd.gr hq (gr_al v6 (.cells #[iv q.kind, iv q.var, .slice q.A q.sub.length q.c] 24))); have EQ := Lib.hid eq; have G6 := Lib.hid (g6.trans (gr_al v6 (.cells #[iv q.kind, iv q.var, .slice q.A q.sub.length q.c] 24))); clear hq eq g6))
      generalize hW7 : World.alloc v6 _ = W7 at *
      clear hW7 a0 a1 a2 b0 b1 b2
      obtain ⟨k7, hk7⟩ : ∃ k, v6.heap.size = k := ⟨_, rfl⟩
      have HC := Lib.hid (show W7.heap[k7]? = some (.cells #[iv q.kind, iv q.var, .slice q.A q.sub.length q.c] 24 (0, 0)) from by rw [← hk7]; exact HC.out)
      rw [hk7]
      clear hk7
      obtain ⟨⟨a0, a1, a2⟩, b0, b1, b2⟩ := HX.out _ (G4.out.trans G6.out)
      obtain ⟨⟨c0, c1, c2⟩, -⟩ := cell3 (gr_h G6.out HA.out)
      obtain ⟨⟨d0, d1, d2⟩, -⟩ := cell3 HC.out
      have GW := Lib.hid (G3.out.trans (G4.out.trans G6.out))
      have CE := Lib.hid (C25.out p q W7 (TRd.gr HP.out G6.out) HQ.out)
      obtain ⟨sm, hsm⟩ : ∃ r, p.er.seq q.er = r := ⟨_, rfl⟩
      rw [hsm] at CE
      have HSM := Lib.hid hsm
      clear hsm
      by_cases he1 : ea = 0
      · subst he1
        by_cases he2 : eb = 0
        · subst he2
          cases sm with
          | false =>
            go_wp2_with (first | (go_at_call 25; (with_reducible refine CE.out.mono ?_); rintro e v8 ⟨rfl, g8⟩; have G8 := Lib.hid (GW.out.trans g8); clear g8) | (go_at_call 13; (with_reducible refine (AW.out _).mono ?_); rintro e v9 ⟨rfl, g9⟩; have G9 := Lib.hid (G8.out.trans g9); clear g9))
            go_ret
            exact ⟨rfl, G9.out⟩
          | true =>
            have GN := Lib.hid (GEN.out rfl rfl (by have h := (seq_iff _ _).1 HSM.out; rw [EP.out, EQ.out] at h; exact h))
            clear GEN
            go_upto_region 7 with (first | (go_at_call 25; (with_reducible refine CE.out.mono ?_); rintro e v8 ⟨rfl, g8⟩; have G8 := Lib.hid (GW.out.trans g8); have H8 := Lib.hid ((G4.out.trans G6.out).trans g8); clear g8))
            clear a0 a1 a2 b0 b1 b2 c0 c1 c2 d0 d1 d2
            obtain ⟨⟨a0, a1, a2⟩, b0, b1, b2⟩ := HX.out _ H8.out
            by_cases hu : eu = 0
            · subst hu
              have GP := Lib.hid (show ∀ p ∈ u, apE s (vr p.1) = (apf s p.1, 0) ∧ apE s p.2 = (apf s p.1, 0) from by
                rcases GN.out with h | h
                · cases h
                · exact h.2)
              clear GN
              go_upto_region 10 with (first | (go_at_call 14; (with_reducible refine (CU.out _ G8.out).mono ?_); rintro e v9 ⟨Au, Lu, cu, rfl, hAu, hEu, g9⟩; have HU := Lib.hid hAu; have EU := Lib.hid hEu; have G9 := Lib.hid (G8.out.trans g9); clear hAu hEu g9))
              obtain ⟨M, hM⟩ : ∃ M, Lu.length = M := ⟨_, rfl⟩
              have HM := Lib.hid hM
              have hM9 : M ≤ 1000 := by
                have h := HUL.out
                rw [← EU.out, List.length_map, hM] at h
                exact h
              rw [hM]
              clear hM a0 a1 a2 b0 b1 b2
              go_wp2
              go_loopw [68] (fun i V => ∃ k : Nat, k ≤ M ∧ i = .int .i64 k ∧ Hid (Gr v9 V)) (fun i _ => M - (intOf i).toNat)
              case atStart => exact ⟨0, Nat.zero_le _, rfl, Lib.hid (gr_refl _)⟩
              case round =>
                obtain ⟨k, hk, rfl, HI⟩ := hrel
                by_cases hlt : k < M
                · obtain ⟨y, hy⟩ : ∃ y, Lu[k]? = some y := ⟨_, List.getElem?_eq_getElem (by rw [HM.out]; exact hlt)⟩
                  obtain ⟨-, ay, a1, rfl, hay, hab, d0, d1, d2, d3, hyr⟩ := asr_at (HU.out.gr HI.out) hy
                  have GY := GP.out y.er (by rw [← EU.out]; exact List.mem_map.2 ⟨y, List.mem_of_getElem? hy, rfl⟩)
                  have GX := Lib.hid (G9.out.trans HI.out)
                  have CV := Lib.hid (fun V (g : Gr w V) => show Calls Try.prog 23 #[.slice A N c, .agg #[iv 5, iv y.var, .slice none 0 0]] V (ApP V (apf s y.var, 0)) from by have h := CX.out (yk 5 y.var) V g HN.out (TRd.nil V); rw [yk_er] at h; rw [show apE s (.mk 5 y.var []) = _ from GY.1] at h; exact h)
                  have CT := Lib.hid (fun V (g : Gr wr V) => show Calls Try.prog 23 #[.slice A N c, .agg #[iv y.ty.kind, iv y.ty.var, .slice y.ty.A y.ty.sub.length y.ty.c]] V (ApP V (apf s y.var, 0)) from by have h := CX.out y.ty V (GX.out.trans g) HN.out (TRd.gr hyr g); rw [show apE s y.ty.er = _ from GY.2] at h; exact h)
                  have HY := Lib.hid (al_new wr (.cells #[iv y.var, iv y.ty.kind, iv y.ty.var, .slice y.ty.A y.ty.sub.length y.ty.c] 43))
                  have GA := Lib.hid (gr_al wr (.cells #[iv y.var, iv y.ty.kind, iv y.ty.var, .slice y.ty.A y.ty.sub.length y.ty.c] 43))
                  clear hy hyr GY
                  go_upto_region 13 with (fail)
                  generalize hW2 : World.alloc wr _ = W2 at *
                  clear hW2 d0 d1 d2 d3
                  obtain ⟨k2, hk2⟩ : ∃ k, wr.heap.size = k := ⟨_, rfl⟩
                  have HY := Lib.hid (show W2.heap[k2]? = some (.cells #[iv y.var, iv y.ty.kind, iv y.ty.var, .slice y.ty.A y.ty.sub.length y.ty.c] 43 (0, 0)) from by rw [← hk2]; exact HY.out)
                  rw [hk2]
                  clear hk2
                  obtain ⟨y0, y1, y2, y3⟩ := cell4 HY.out
                  go_upto_region 14 with (first | (go_at_call 26; (with_reducible refine (VA.out _ _).mono ?_); rintro e v10 ⟨rfl, g10⟩; have G10 := Lib.hid (GA.out.trans g10); have Y10 := Lib.hid (gr_h g10 HY.out); clear g10) | (go_at_call 23; (with_reducible refine (CV.out _ (GX.out.trans G10.out)).mono ?_); rintro e v11 ⟨p1, rfl, hp, ep, g11⟩; have HP1 := Lib.hid (TRd.gr hp (gr_al v11 (.cells #[iv p1.kind, iv p1.var, .slice p1.A p1.sub.length p1.c] 24))); have HA1 := Lib.hid (al_new v11 (.cells #[iv p1.kind, iv p1.var, .slice p1.A p1.sub.length p1.c] 24)); have EP1 := Lib.hid ep; have G11 := Lib.hid (G10.out.trans (g11.trans (gr_al v11 (.cells #[iv p1.kind, iv p1.var, .slice p1.A p1.sub.length p1.c] 24)))); have Y11 := Lib.hid (gr_h (g11.trans (gr_al v11 (.cells #[iv p1.kind, iv p1.var, .slice p1.A p1.sub.length p1.c] 24))) Y10.out); clear hp ep g11))
                  generalize hW12 : World.alloc v11 _ = W12 at *
                  clear hW12 y0 y1 y2 y3
                  obtain ⟨k12, hk12⟩ : ∃ k, v11.heap.size = k := ⟨_, rfl⟩
                  have HA1 := Lib.hid (show W12.heap[k12]? = some (.cells #[iv p1.kind, iv p1.var, .slice p1.A p1.sub.length p1.c] 24 (0, 0)) from by rw [← hk12]; exact HA1.out)
                  rw [hk12]
                  clear hk12
                  obtain ⟨y0, y1, y2, y3⟩ := cell4 Y11.out
                  go_upto_region 15 with (first | (go_at_call 23; (with_reducible refine (CT.out _ G11.out).mono ?_); rintro e v13 ⟨q1, rfl, hq, eq, g13⟩; have HQ1 := Lib.hid (TRd.gr hq (gr_al v13 (.cells #[iv q1.kind, iv q1.var, .slice q1.A q1.sub.length q1.c] 24))); have HA2 := Lib.hid (al_new v13 (.cells #[iv q1.kind, iv q1.var, .slice q1.A q1.sub.length q1.c] 24)); have EQ1 := Lib.hid eq; have G13 := Lib.hid (g13.trans (gr_al v13 (.cells #[iv q1.kind, iv q1.var, .slice q1.A q1.sub.length q1.c] 24))); clear hq eq g13))
                  generalize hW14 : World.alloc v13 _ = W14 at *
                  clear hW14 y0 y1 y2 y3
                  obtain ⟨k14, hk14⟩ : ∃ k, v13.heap.size = k := ⟨_, rfl⟩
                  have HA2 := Lib.hid (show W14.heap[k14]? = some (.cells #[iv q1.kind, iv q1.var, .slice q1.A q1.sub.length q1.c] 24 (0, 0)) from by rw [← hk14]; exact HA2.out)
                  rw [hk14]
                  clear hk14
                  obtain ⟨⟨c0, c1, c2⟩, -⟩ := cell3 (gr_h G13.out HA1.out)
                  obtain ⟨⟨d0, d1, d2⟩, -⟩ := cell3 HA2.out
                  have CE1 := Lib.hid (show Calls Try.prog 25 #[.agg #[iv p1.kind, iv p1.var, .slice p1.A p1.sub.length p1.c], .agg #[iv q1.kind, iv q1.var, .slice q1.A q1.sub.length q1.c]] W14 (fun e w' => e = .returned (.bool true) ∧ Gr W14 w') from by
                    have h := C25.out p1 q1 W14 (TRd.gr HP1.out G13.out) HQ1.out
                    rw [(seq_iff _ _).2 (EP1.out.trans EQ1.out.symm)] at h
                    exact h)
                  go_wp2_with (first | (go_at_call 25; (with_reducible refine CE1.out.mono ?_); rintro e v15 ⟨rfl, g15⟩; have G15 := Lib.hid ((G11.out.trans G13.out).trans g15); clear g15))
                  exact ⟨⟨k + 1, hlt, by simp, Lib.hid (HI.out.trans G15.out)⟩, by simp [intOf]; omega⟩
                · go_wp2_with (first | (go_at_call 13; (with_reducible refine (AW.out _).mono ?_); rintro e v10 ⟨rfl, g10⟩; have G10 := Lib.hid ((G9.out.trans HI.out).trans g10); clear g10))
                  go_ret
                  exact ⟨rfl, G10.out⟩
            · have hu4 : eu = 4 := by
                rcases GN.out with h | h
                · exact h
                · exact absurd h.1 hu
              subst hu4
              clear GN hu
              go_wp2_with (first | (go_at_call 14; (with_reducible refine (CU.out _ G8.out).mono ?_); rintro e v9 ⟨Au, Lu, cu, rfl, -, -, g9⟩; have G9 := Lib.hid (G8.out.trans g9); clear g9) | (go_at_call 13; (with_reducible refine (AW.out _).mono ?_); rintro e v10 ⟨rfl, g10⟩; have G10 := Lib.hid (G9.out.trans g10); clear g10))
              go_ret
              exact ⟨rfl, G10.out⟩
        · have hb1 : (eb == 0) = false := by simpa using he2
          have hb2 : (eb != 0) = true := by simpa using he2
          go_wp2_with (first | (go_at_call 13; (with_reducible refine (AW.out _).mono ?_); rintro e v9 ⟨rfl, g9⟩; have G9 := Lib.hid (GW.out.trans g9); clear g9))
          go_ret
          exact ⟨rfl, G9.out⟩
      · have hb1 : (ea == 0) = false := by simpa using he1
        have hb2 : (ea != 0) = true := by simpa using he1
        go_wp2_with (first | (go_at_call 13; (with_reducible refine (AW.out _).mono ?_); rintro e v9 ⟨rfl, g9⟩; have G9 := Lib.hid (GW.out.trans g9); clear g9))
        go_ret
        exact ⟨rfl, G9.out⟩
end Go.Proofs.Ytjlmhfdigoogfaa
