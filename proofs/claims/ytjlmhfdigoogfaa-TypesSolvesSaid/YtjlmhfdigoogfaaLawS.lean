/- The law TypesSolves (8). -/
import Derived.Test.YtjlmhfdigoogfaaLawG
namespace Go.Proofs.Ytjlmhfdigoogfaa
open Go.RowKit

theorem vrs_le (t : PT) : (vrs t).length ≤ 200 := by
  unfold vrs
  split
  · rename_i h
    rw [ascd_len]
    have := sn_len [] t
    have := (ck_cke h).2
    simp at *
    omega
  · simp
set_option maxRecDepth 100000 in
set_option maxHeartbeats 8000000 in
theorem law_solves_any (a b : Ty) (w : World) (ha : a.Rd w) (hb : b.Rd w) : Calls Try.prog 8 #[a.v, b.v] w fun e w' => e = .returned (.bool true) ∧ Gr w w' := by
  have AW := Lib.hid awake_any
  have C12 := Lib.hid (fun V k (g : Gr w V) => great_two a b V (TRd.gr ha g) (TRd.gr hb g) k)
  have CU := Lib.hid (fun V (g : Gr w V) => show Calls Try.prog 14 #[.agg #[iv a.kind, iv a.var, .slice a.A a.sub.length a.c], .agg #[iv b.kind, iv b.var, .slice b.A b.sub.length b.c]] V (AsP V (uans a.er b.er).1 (uans a.er b.er).2) from unify_asp a b V (TRd.gr ha g) (TRd.gr hb g))
  have CU2 := Lib.hid (fun V (g : Gr w V) => show Calls Try.prog 14 #[.agg #[iv b.kind, iv b.var, .slice b.A b.sub.length b.c], .agg #[iv a.kind, iv a.var, .slice a.A a.sub.length a.c]] V (AsP V (uans b.er a.er).1 (uans b.er a.er).2) from unify_asp b a V (TRd.gr hb g) (TRd.gr ha g))
  have KA := Lib.hid (fun V (g : Gr w V) => show Calls Try.prog 17 #[.agg #[iv a.kind, iv a.var, .slice a.A a.sub.length a.c]] V (fun e w' => e = .returned (iv (ck a.er)) ∧ Gr V w') from check_any a V (TRd.gr ha g))
  have KB := Lib.hid (fun V (g : Gr w V) => show Calls Try.prog 17 #[.agg #[iv b.kind, iv b.var, .slice b.A b.sub.length b.c]] V (fun e w' => e = .returned (iv (ck b.er)) ∧ Gr V w') from check_any b V (TRd.gr hb g))
  have C25 := Lib.hid same_two
  have SOL := Lib.hid (fun h1 h2 h3 => solves (a := a.er) (b := b.er) h1 h2 h3)
  have SNO := Lib.hid (fun h => solves_no (a := a.er) (b := b.er) h)
  have CKA := Lib.hid (show (uans a.er b.er).2 = 0 → ck a.er = 0 ∧ ck b.er = 0 from fun h => by
    by_cases h1 : ck a.er = 0
    · by_cases h2 : ck b.er = 0
      · exact ⟨h1, h2⟩
      · rw [uans_bad2 h1 h2] at h; exact absurd h h2
    · rw [uans_bad1 h1] at h; exact absurd h h1)
  have UL1 := Lib.hid (uans_len a.er b.er)
  have UL2 := Lib.hid (uans_len b.er a.er)
  have CA := Lib.hid (fun (Au : Option Addr) (cu : Nat) (Lu : List As) V (g : Gr w V) (h : ARd V Au Lu) (hl : Lu.length ≤ 1000) => apply_two Au cu Lu a V h (by omega) (TRd.gr ha g))
  have CB := Lib.hid (fun (Au : Option Addr) (cu : Nat) (Lu : List As) V (g : Gr w V) (h : ARd V Au Lu) (hl : Lu.length ≤ 1000) => apply_two Au cu Lu b V h (by omega) (TRd.gr hb g))
  obtain ⟨U, hU⟩ : ∃ U, uans a.er b.er = U := ⟨_, rfl⟩
  obtain ⟨U2, hU2⟩ : ∃ U, uans b.er a.er = U := ⟨_, rfl⟩
  simp only [hU] at CU SOL SNO CKA UL1
  simp only [hU2] at CU2 SOL SNO UL2
  obtain ⟨u, eu⟩ := U
  obtain ⟨u2, eu2⟩ := U2
  simp only at CU CU2 SOL SNO CKA UL1 UL2
  have HB := Lib.hid (gr_h (gr_al (w.alloc (.cells #[iv a.kind, iv a.var, .slice a.A a.sub.length a.c] 24)) (.cells #[iv b.kind, iv b.var, .slice b.A b.sub.length b.c] 24)) (al_new w (.cells #[iv a.kind, iv a.var, .slice a.A a.sub.length a.c] 24)))
  have HB2 := Lib.hid (al_at (w.alloc (.cells #[iv a.kind, iv a.var, .slice a.A a.sub.length a.c] 24)) (.cells #[iv b.kind, iv b.var, .slice b.A b.sub.length b.c] 24) (A := w.heap.size + 1) (by simp))
  unfold Ty.v
  obtain ⟨g, hg⟩ : ∃ g, (grt a.er || grt b.er) = g := ⟨_, rfl⟩
  simp only [hg] at C12
  clear hg ha hb hU hU2
  cases g with
  | true =>
    go_enter Try.func8, Try.ntmps8
    go_wp2_with (first | (go_at_call 12; (with_reducible refine (C12.out _ _ ((gr_al _ _).trans ((gr_al _ _).trans (gr_al _ _))) (al_at _ _ (by simp))).mono ?_); rintro e v1 ⟨rfl, g1⟩; have G1 := Lib.hid (((gr_al _ _).trans ((gr_al _ _).trans (gr_al _ _))).trans g1); have H1 := Lib.hid ((gr_al _ _).trans g1); clear g1) | (go_at_call 13; (with_reducible refine (AW.out _).mono ?_); rintro e v2 ⟨rfl, g2⟩; have G2 := Lib.hid (G1.out.trans g2); clear g2))
    go_ret
    exact ⟨rfl, G2.out⟩
  | false =>
    go_enter Try.func8, Try.ntmps8
    go_upto_region 3 with (first | (go_at_call 12; (with_reducible refine (C12.out _ _ ((gr_al _ _).trans ((gr_al _ _).trans (gr_al _ _))) (al_at _ _ (by simp))).mono ?_); rintro e v1 ⟨rfl, g1⟩; have G1 := Lib.hid (((gr_al _ _).trans ((gr_al _ _).trans (gr_al _ _))).trans g1); have H1 := Lib.hid ((gr_al _ _).trans g1); clear g1))
    have HX := Lib.hid (fun V (g : Gr v1 V) => (⟨(cell3 (gr_h (H1.out.trans g) HB.out)).1, (cell3 (gr_h (H1.out.trans g) HB2.out)).1⟩ : (V.cell? ⟨w.heap.size, 0, none⟩ = some (iv a.kind) ∧ V.cell? ⟨w.heap.size, 1, none⟩ = some (iv a.var) ∧ V.cell? ⟨w.heap.size, 2, none⟩ = some (.slice a.A a.sub.length a.c)) ∧ V.cell? ⟨w.heap.size + 1, 0, none⟩ = some (iv b.kind) ∧ V.cell? ⟨w.heap.size + 1, 1, none⟩ = some (iv b.var) ∧ V.cell? ⟨w.heap.size + 1, 2, none⟩ = some (.slice b.A b.sub.length b.c)))
    obtain ⟨⟨a0, a1, a2⟩, b0, b1, b2⟩ := HX.out _ (gr_refl _)
    go_upto_region 4 with (first | (go_at_call 14; (with_reducible refine (CU.out _ G1.out).mono ?_); rintro e v2 ⟨Au, Lu, cu, rfl, hAu, hEu, g2⟩; have HU := Lib.hid hAu; have EU := Lib.hid hEu; have H2 := Lib.hid g2; clear hAu hEu g2))
    clear a0 a1 a2 b0 b1 b2
    obtain ⟨⟨a0, a1, a2⟩, b0, b1, b2⟩ := HX.out _ H2.out
    go_upto_region 5 with (first | (go_at_call 14; (with_reducible refine (CU2.out _ (G1.out.trans H2.out)).mono ?_); rintro e v3 ⟨Au2, Lu2, cu2, rfl, hAu, hEu, g3⟩; have HU2 := Lib.hid hAu; have EU2 := Lib.hid hEu; have P3 := Lib.hid g3; have H3 := Lib.hid (H2.out.trans g3); clear hAu hEu g3))
    clear a0 a1 a2 b0 b1 b2
    obtain ⟨⟨a0, a1, a2⟩, b0, b1, b2⟩ := HX.out _ H3.out
    have HM9 := Lib.hid (show Lu.length ≤ 1000 from by have h := UL1.out; rw [← EU.out, List.length_map] at h; exact h)
    have HM92 := Lib.hid (show Lu2.length ≤ 1000 from by have h := UL2.out; rw [← EU2.out, List.length_map] at h; exact h)
    by_cases hu : eu = 0
    · subst hu
      obtain ⟨ca, cb⟩ := CKA.out rfl
      obtain ⟨s1, s2, s3, s4⟩ := SOL.out ca cb rfl
      obtain ⟨rfl, rfl⟩ := Prod.mk.inj s1
      have S2 := Lib.hid s2
      have S3 := Lib.hid s3
      have S4 := Lib.hid s4
      obtain ⟨Ra, hRa⟩ : ∃ R, apE u2 a.er = R := ⟨_, rfl⟩
      obtain ⟨xa, ea⟩ := Ra
      have CA2 := Lib.hid (fun V (g : Gr v3 V) => show Calls Try.prog 23 #[.slice Au Lu.length cu, .agg #[iv a.kind, iv a.var, .slice a.A a.sub.length a.c]] V (ApP V (xa, ea)) from by have h := CA.out Au cu Lu V ((G1.out.trans H3.out).trans g) (HU.out.gr (P3.out.trans g)) HM9.out; rw [EU.out, hRa] at h; exact h)
      have CB2 := Lib.hid (fun V (g : Gr v3 V) => show Calls Try.prog 23 #[.slice Au Lu.length cu, .agg #[iv b.kind, iv b.var, .slice b.A b.sub.length b.c]] V (ApP V (xa, ea)) from by have h := CB.out Au cu Lu V ((G1.out.trans H3.out).trans g) (HU.out.gr (P3.out.trans g)) HM9.out; rw [EU.out, ← S2.out, hRa] at h; exact h)
      have CS := Lib.hid (fun V (g : Gr v3 V) => show Calls Try.prog 16 #[.slice Au Lu.length cu, .slice Au2 Lu2.length cu2] V (fun e w' => e = .returned (.bool true) ∧ Gr V w') from by
        have h := sameAssigns_any Au Au2 cu cu2 Lu Lu2 V (HU.out.gr (P3.out.trans g)) (HU2.out.gr g) (by have := HM9.out; omega) (by have := HM92.out; omega)
        rw [asq_true (EU.out.trans EU2.out.symm)] at h
        exact h)
      rw [hRa] at S3
      have S3 := Lib.hid (show ea = 0 ∨ ea = 4 from S3.out)
      obtain ⟨M, hM⟩ : ∃ M, Lu.length = M := ⟨_, rfl⟩
      have HM := Lib.hid hM
      have hM9 : M ≤ 1000 := by rw [← hM]; exact HM9.out
      obtain ⟨M2, hM2⟩ : ∃ M, Lu2.length = M := ⟨_, rfl⟩
      simp only [hM, hM2] at CA2 CB2 CS
      rw [hM, hM2]
      clear ca cb s1 s2 s3 s4 hM hM2 hRa SOL SNO CKA CU CU2 CA CB KA KB C12
      go_upto_region 8 with (first | (go_at_call 23; (with_reducible refine (CA2.out _ (gr_refl _)).mono ?_); rintro e v4 ⟨p, rfl, hp, ep, g4⟩; have HA := Lib.hid (al_new v4 (.cells #[iv p.kind, iv p.var, .slice p.A p.sub.length p.c] 24)); have HP := Lib.hid (TRd.gr hp (gr_al v4 (.cells #[iv p.kind, iv p.var, .slice p.A p.sub.length p.c] 24))); have EP := Lib.hid ep; have G4 := Lib.hid (g4.trans (gr_al v4 (.cells #[iv p.kind, iv p.var, .slice p.A p.sub.length p.c] 24))); clear hp ep g4))
      generalize hW5 : World.alloc v4 _ = W5 at *
      clear hW5 a0 a1 a2 b0 b1 b2
      obtain ⟨k5, hk5⟩ : ∃ k, v4.heap.size = k := ⟨_, rfl⟩
      have HA := Lib.hid (show W5.heap[k5]? = some (.cells #[iv p.kind, iv p.var, .slice p.A p.sub.length p.c] 24 (0, 0)) from by rw [← hk5]; exact HA.out)
      rw [hk5]
      clear hk5
      obtain ⟨⟨a0, a1, a2⟩, b0, b1, b2⟩ := HX.out _ (H3.out.trans G4.out)
      go_upto_region 9 with (first | (go_at_call 23; (with_reducible refine (CB2.out _ G4.out).mono ?_); rintro e v6 ⟨q, rfl, hq, eq, g6⟩; have HC := Lib.hid (al_new v6 (.cells #[iv q.kind, iv q.var, .slice q.A q.sub.length q.c] 24)); have HQ := Lib.hid (TRd.gr hq (gr_al v6 (.cells #[iv q.kind, iv q.var, .slice q.A q.sub.length q.c] 24))); have EQ := Lib.hid eq; have G6 := Lib.hid (g6.trans (gr_al v6 (.cells #[iv q.kind, iv q.var, .slice q.A q.sub.length q.c] 24))); clear hq eq g6))
      generalize hW7 : World.alloc v6 _ = W7 at *
      clear hW7 a0 a1 a2 b0 b1 b2
      obtain ⟨k7, hk7⟩ : ∃ k, v6.heap.size = k := ⟨_, rfl⟩
      have HC := Lib.hid (show W7.heap[k7]? = some (.cells #[iv q.kind, iv q.var, .slice q.A q.sub.length q.c] 24 (0, 0)) from by rw [← hk7]; exact HC.out)
      rw [hk7]
      clear hk7
      obtain ⟨⟨c0, c1, c2⟩, -⟩ := cell3 (gr_h G6.out HA.out)
      obtain ⟨⟨d0, d1, d2⟩, -⟩ := cell3 HC.out
      have G7 := Lib.hid (G4.out.trans G6.out)
      have CE := Lib.hid (fun V (g : Gr W7 V) => show Calls Try.prog 25 #[.agg #[iv p.kind, iv p.var, .slice p.A p.sub.length p.c], .agg #[iv q.kind, iv q.var, .slice q.A q.sub.length q.c]] V (fun e w' => e = .returned (.bool true) ∧ Gr V w') from by
        have h := C25.out p q V (TRd.gr HP.out (G6.out.trans g)) (TRd.gr HQ.out g)
        rw [(seq_iff _ _).2 (EP.out.trans EQ.out.symm)] at h
        exact h)
      have KS := Lib.hid (fun V (g : Gr W7 V) => (⟨(cell3 (gr_h (G6.out.trans g) HA.out)).1, (cell3 (gr_h g HC.out)).1⟩ : (V.cell? ⟨k5, 0, none⟩ = some (iv p.kind) ∧ V.cell? ⟨k5, 1, none⟩ = some (iv p.var) ∧ V.cell? ⟨k5, 2, none⟩ = some (.slice p.A p.sub.length p.c)) ∧ V.cell? ⟨k7, 0, none⟩ = some (iv q.kind) ∧ V.cell? ⟨k7, 1, none⟩ = some (iv q.var) ∧ V.cell? ⟨k7, 2, none⟩ = some (.slice q.A q.sub.length q.c)))
      clear c0 c1 c2 d0 d1 d2
      go_cut [101] (fun s V => s = .bool false ∧ Hid (Gr W7 V))
      case first =>
        rcases S3.out with he | he
        · subst he
          go_wp2_with (first | (go_at_call 16; (with_reducible refine (CS.out _ G7.out).mono ?_); rintro e v8 ⟨rfl, g8⟩; have G8 := Lib.hid g8; obtain ⟨⟨c0, c1, c2⟩, d0, d1, d2⟩ := KS.out _ g8; clear g8) | (go_at_call 25; (with_reducible refine (CE.out _ G8.out).mono ?_); rintro e v9 ⟨rfl, g9⟩; have G9 := Lib.hid (G8.out.trans g9); clear g9))
          go_meet
          exact ⟨rfl, G9⟩
        · subst he
          go_wp2_with (first | (go_at_call 16; (with_reducible refine (CS.out _ G7.out).mono ?_); rintro e v8 ⟨rfl, g8⟩; have G8 := Lib.hid g8; clear g8))
          go_meet
          exact ⟨rfl, G8⟩
      case rest =>
        obtain ⟨rfl, GC⟩ := hcut
        generalize hwc : wc = W8 at *
        clear hwc
        have HUC := Lib.hid (HU.out.gr (P3.out.trans (G7.out.trans GC.out)))
        have GW := Lib.hid ((G1.out.trans H3.out).trans (G7.out.trans GC.out))
        go_wp2
        go_loopw [104] (fun i V => ∃ k : Nat, k ≤ M ∧ i = .int .i64 k ∧ Hid (Gr W8 V)) (fun i _ => M - (intOf i).toNat)
        case atStart => exact ⟨0, Nat.zero_le _, rfl, Lib.hid (gr_refl _)⟩
        case round =>
          obtain ⟨k, hk, rfl, HI⟩ := hrel
          obtain ⟨R1, rfl⟩ : ∃ W, W = wr := ⟨_, rfl⟩
          by_cases hlt : k < M
          · obtain ⟨y, hy⟩ : ∃ y, Lu[k]? = some y := ⟨_, List.getElem?_eq_getElem (by rw [HM.out]; exact hlt)⟩
            obtain ⟨-, ay, a1, rfl, hay, hab, e0, e1, e2, e3, -⟩ := asr_at (HUC.out.gr HI.out) hy
            have MY := Lib.hid (show y.er ∈ u2 from by rw [← EU.out]; exact List.mem_map.2 ⟨y, List.mem_of_getElem? hy, rfl⟩)
            have HY := Lib.hid (al_new R1 (.cells #[iv y.var, iv y.ty.kind, iv y.ty.var, .slice y.ty.A y.ty.sub.length y.ty.c] 43))
            have GA := Lib.hid (HI.out.trans (gr_al R1 (.cells #[iv y.var, iv y.ty.kind, iv y.ty.var, .slice y.ty.A y.ty.sub.length y.ty.c] 43)))
            clear hy
            go_upto_region 14 with (fail)
            generalize hW9 : World.alloc R1 _ = W9 at *
            clear hW9 e0 e1 e2 e3 hay hab
            obtain ⟨k9, hk9⟩ : ∃ k, R1.heap.size = k := ⟨_, rfl⟩
            have HY := Lib.hid (show W9.heap[k9]? = some (.cells #[iv y.var, iv y.ty.kind, iv y.ty.var, .slice y.ty.A y.ty.sub.length y.ty.c] 43 (0, 0)) from by rw [← hk9]; exact HY.out)
            rw [hk9]
            clear hk9
            go_wp2
            go_loopw [110] (fun i V => ∃ j : Nat, j ≤ M ∧ i = .int .i64 j ∧ Hid (Gr W9 V)) (fun i _ => M - (intOf i).toNat)
            case atStart => exact ⟨0, Nat.zero_le _, rfl, Lib.hid (gr_refl _)⟩
            case round =>
              obtain ⟨j, hj, rfl, HJ⟩ := hrel
              obtain ⟨R2, rfl⟩ : ∃ W, W = wr := ⟨_, rfl⟩
              by_cases hlt2 : j < M
              · obtain ⟨z, hz⟩ : ∃ z, Lu[j]? = some z := ⟨_, List.getElem?_eq_getElem (by rw [HM.out]; exact hlt2)⟩
                obtain ⟨-, az, b1, ez, haz, hbz, e0, e1, e2, e3, hzr⟩ := asr_at (HUC.out.gr (GA.out.trans HJ.out)) hz
                obtain rfl : ay = az := Option.some.inj ez
                have NV := Lib.hid (S4.out y.er MY.out z.er (by rw [← EU.out]; exact List.mem_map.2 ⟨z, List.mem_of_getElem? hz, rfl⟩))
                have HZ := Lib.hid (al_new R2 (.cells #[iv z.var, iv z.ty.kind, iv z.ty.var, .slice z.ty.A z.ty.sub.length z.ty.c] 43))
                have GZ := Lib.hid (HJ.out.trans (gr_al R2 (.cells #[iv z.var, iv z.ty.kind, iv z.ty.var, .slice z.ty.A z.ty.sub.length z.ty.c] 43)))
                have C20 := Lib.hid (fun V (g : Gr R2 V) => show Calls Try.prog 20 #[.agg #[iv z.ty.kind, iv z.ty.var, .slice z.ty.A z.ty.sub.length z.ty.c]] V (fun e w' => (∃ v, e = .returned v ∧ OR 3 1 NC w' V.heap.size v (vrs z.ty.er)) ∧ Gr V w') from vars_any z.ty V (TRd.gr hzr g))
                have GZ2 := Lib.hid (gr_al R2 (.cells #[iv z.var, iv z.ty.kind, iv z.ty.var, .slice z.ty.A z.ty.sub.length z.ty.c] 43))
                obtain ⟨l, hl⟩ : ∃ l, vrs z.ty.er = l := ⟨_, rfl⟩
                have HLL := Lib.hid (show l.length ≤ 200 from by rw [← hl]; exact vrs_le _)
                simp only [hl] at C20
                have NV := Lib.hid (show ∀ x ∈ l, x ≠ y.var from fun x hx e => by rw [← hl] at hx; exact NV.out (by show y.var ∈ _; rw [← e]; exact hx))
                clear hz hzr hl ez
                go_upto_region 17 with (fail)
                generalize hW10 : World.alloc R2 _ = W10 at *
                clear hW10 e0 e1 e2 e3 haz hbz
                obtain ⟨k10, hk10⟩ : ∃ k, R2.heap.size = k := ⟨_, rfl⟩
                have HZ := Lib.hid (show W10.heap[k10]? = some (.cells #[iv z.var, iv z.ty.kind, iv z.ty.var, .slice z.ty.A z.ty.sub.length z.ty.c] 43 (0, 0)) from by rw [← hk10]; exact HZ.out)
                rw [hk10]
                clear hk10
                obtain ⟨z0, z1, z2, z3⟩ := cell4 HZ.out
                go_wp2_with (first | (go_at_call 20; (with_reducible refine (C20.out _ GZ2.out).mono ?_); rintro e v11 ⟨⟨v, rfl, ho⟩, g⟩; obtain ⟨A3, c3, rfl, hrd⟩ := ho.form NC_len; have HRD := Lib.hid hrd; have G11 := Lib.hid (GZ.out.trans g); obtain ⟨y0, y1, y2, y3⟩ := cell4 (gr_h (GZ.out.trans g) HY.out); clear g ho hrd))
                obtain ⟨NL, hNL⟩ : ∃ n, l.length = n := ⟨_, rfl⟩
                have HNL := Lib.hid hNL
                have hnl : NL ≤ 200 := by rw [← hNL]; exact HLL.out
                rw [hNL]
                clear hNL z0 z1 z2 z3
                go_loop [118] (fun i => ∃ n : Nat, n ≤ NL ∧ i = .int .i64 n) (fun i => NL - (intOf i).toNat)
                case atStart => exact ⟨0, Nat.zero_le _, rfl⟩
                case round =>
                  obtain ⟨n, hn, rfl⟩ := hrel
                  by_cases hlt3 : n < NL
                  · obtain ⟨xv, hxv⟩ : ∃ x, l[n]? = some x := ⟨_, List.getElem?_eq_getElem (by rw [HNL.out]; exact hlt3)⟩
                    obtain ⟨ax, rfl, x0⟩ := rd_num HRD.out hxv
                    have hne : (xv == y.var) = false := by simpa using NV.out xv (List.mem_of_getElem? hxv)
                    clear hxv
                    go_wp2
                    go_round
                    case rel => exact ⟨n + 1, hlt3, by simp⟩
                    case measure => simp [intOf]; omega
                  · go_wp2
                    exact ⟨⟨j + 1, hlt2, by simp, Lib.hid G11.out⟩, by simp [intOf]; omega⟩
              · go_wp2
                exact ⟨⟨k + 1, hlt, by simp, Lib.hid (GA.out.trans HJ.out)⟩, by simp [intOf]; omega⟩
          · go_wp2_with (first | (go_at_call 13; (with_reducible refine (AW.out _).mono ?_); rintro e v10 ⟨rfl, g10⟩; have G10 := Lib.hid ((GW.out.trans HI.out).trans g10); clear g10))
            go_ret
            exact ⟨rfl, G10.out⟩
    · have hs := SNO.out hu
      have hL0 : Lu = [] := by have h := EU.out; rw [hs.1] at h; simpa using h
      subst hL0
      have hb1 : (eu == 0) = false := by simpa using hu
      have hb2 : (eu != 0) = true := by simpa using hu
      rcases hs.2 with he | ⟨he1, he2⟩
      · subst he
        clear hs hu
        go_wp2_with (first | (go_at_call 13; (with_reducible refine (AW.out _).mono ?_); rintro e v4 ⟨rfl, g4⟩; have G4 := Lib.hid ((G1.out.trans H3.out).trans g4); clear g4))
        go_ret
        exact ⟨rfl, G4.out⟩
      · by_cases hee : eu2 = eu
        · subst hee
          clear hs hu he1 he2
          go_wp2_with (first | (go_at_call 13; (with_reducible refine (AW.out _).mono ?_); rintro e v4 ⟨rfl, g4⟩; have G4 := Lib.hid ((G1.out.trans H3.out).trans g4); clear g4))
          go_ret
          exact ⟨rfl, G4.out⟩
        · have hb3 : (eu2 == eu) = false := by simpa using hee
          obtain ⟨qa, hqa⟩ : ∃ q, ck a.er = q := ⟨_, rfl⟩
          obtain ⟨qb, hqb⟩ : ∃ q, ck b.er = q := ⟨_, rfl⟩
          simp only [hqa] at KA he1
          simp only [hqb] at KB he2
          have hb4 : (qa == 0) = false := by simpa using he1
          have hb5 : (qa != 0) = true := by simpa using he1
          have hb6 : (qb == 0) = false := by simpa using he2
          have hb7 : (qb != 0) = true := by simpa using he2
          clear hs hu hqa hqb
          go_wp2_with (first | (go_at_call 17; (with_reducible refine (KB.out _ (G1.out.trans (H3.out.trans G4.out))).mono ?_); rintro e v5 ⟨rfl, g5⟩; have G5 := Lib.hid (G4.out.trans g5); clear g5) | (go_at_call 17; (with_reducible refine (KA.out _ (G1.out.trans H3.out)).mono ?_); rintro e v4 ⟨rfl, g4⟩; have G4 := Lib.hid g4; clear a0 a1 a2 b0 b1 b2; obtain ⟨⟨a0, a1, a2⟩, b0, b1, b2⟩ := HX.out _ (H3.out.trans g4); clear g4) | (go_at_call 13; (with_reducible refine (AW.out _).mono ?_); rintro e v6 ⟨rfl, g6⟩; have G6 := Lib.hid ((G1.out.trans (H3.out.trans G5.out)).trans g6); clear g6))
          go_ret
          exact ⟨rfl, G6.out⟩
end Go.Proofs.Ytjlmhfdigoogfaa
