/- The law TypesOpened (11). -/
import Derived.Test.YtjlmhfdigoogfaaTxM
import Derived.Test.YtjlmhfdigoogfaaTxO
import Derived.Test.YtjlmhfdigoogfaaLawG
namespace Go.Proofs.Ytjlmhfdigoogfaa
open Go.RowKit

theorem samesc_yes (m : Int) (p q : Ty) (V : World) (hp : p.Rd V) (hq : q.Rd V) (e : p.er = q.er) : Calls Try.prog 31 #[.agg #[iv m, iv p.kind, iv p.var, .slice p.A p.sub.length p.c], .agg #[iv m, iv q.kind, iv q.var, .slice q.A q.sub.length q.c]] V (fun e w' => e = .returned (.bool true) ∧ Gr V w') := by
  have h := samesc_any ⟨m, p⟩ ⟨m, q⟩ V hp hq
  rw [(seq_iff _ _).2 e] at h
  simp only [BEq.rfl, Bool.true_and] at h
  exact h
attribute [local irreducible] Calls in
set_option maxRecDepth 100000 in
set_option maxHeartbeats 16000000 in
theorem law_opened_any (s : Sc) (k : Int) (l : T) (w : World) (hs : s.ty.Rd w) (hk : 0 ≤ k ∧ k ≤ 65535) (hl : l.length ≤ 9223372036854775807) : Calls Try.prog 11 #[s.v, .int .u16 k, tv l] w fun e w' => e = .returned (.bool true) ∧ Gr w w' := by
  obtain ⟨n, x⟩ := s
  simp only at hs
  have AW := Lib.hid awake_any
  have C12 := Lib.hid (fun V k (g : Gr w V) => great_one x V (TRd.gr hs g) k)
  have XR := Lib.hid (fun V (g : Gr w V) => TRd.gr hs g)
  have CA := Lib.hid (fun V => parse_any l V)
  have CO := Lib.hid (fun V (g : Gr w V) => open_any n x k V (TRd.gr hs g))
  have CV := Lib.hid (fun V (g : Gr w V) => (vars_any x V (TRd.gr hs g)).mono fun e w' h => show (∃ A c, e = .returned (.slice A (vrs x.er).length c)) ∧ Gr V w' from by
    obtain ⟨⟨v, rfl, ho⟩, g⟩ := h
    obtain ⟨A, c, rfl, -⟩ := ho.form NC_len
    exact ⟨⟨A, c, rfl⟩, g⟩)
  have CP := Lib.hid (fun V (g : Gr w V) => print_any n x V (TRd.gr hs g))
  have OF := Lib.hid (fun (t2 : PT) (m : Int) (h : opE n x.er k = ((t2, m), 0)) (hl : ((vrs x.er).length : Int) = n) => op0_of h hl hk)
  obtain ⟨S, hS⟩ : ∃ R, psE l = R := ⟨_, rfl⟩
  obtain ⟨⟨m1, t1⟩, e2⟩ := S
  have PQ := Lib.hid (fun h : e2 = 0 => parse_print (hS.trans (by rw [h])))
  simp only [hS] at CA
  obtain ⟨O, hO⟩ : ∃ R, opE n x.er k = R := ⟨_, rfl⟩
  obtain ⟨⟨t2, m2⟩, e3⟩ := O
  have OG := Lib.hid (fun h : e3 = 0 => OF.out t2 m2 (hO.trans (by rw [h])))
  simp only [hO] at CO
  obtain ⟨N, hN⟩ : ∃ N, (vrs x.er).length = N := ⟨_, rfl⟩
  simp only [hN] at CV OG
  have BX := Lib.hid (B4.of n x.kind x.var (.slice x.A x.sub.length x.c) w)
  unfold Sc.v
  unfold Ty.v at CV
  obtain ⟨g, hg⟩ : ∃ g, grt x.er = g := ⟨_, rfl⟩
  simp only [hg] at C12
  clear hg hs hS hO hN OF
  obtain ⟨b0, b1, b2, b3⟩ := BX.out.c
  cases g with
  | true =>
    go_enter Try.func11, Try.ntmps11
    go_wp2_with ((first | (go_at_call 12; (with_reducible refine (C12.out _ _ ((gr_al _ _).trans (gr_al _ _)) (al_at _ _ (by simp))).mono ?_); rintro e v1 ⟨rfl, g1⟩; have G1 := Lib.hid (((gr_al _ _).trans (gr_al _ _)).trans g1); clear g1) | (go_at_call 13; (with_reducible refine (AW.out _).mono ?_); rintro e v2 ⟨rfl, g2⟩; have G2 := Lib.hid (G1.out.trans g2); clear g2)))
    go_ret
    exact ⟨rfl, G2.out⟩
  | false =>
    by_cases h20 : 200 < l.length
    · go_enter Try.func11, Try.ntmps11
      go_wp2_with ((first | (go_at_call 12; (with_reducible refine (C12.out _ _ ((gr_al _ _).trans (gr_al _ _)) (al_at _ _ (by simp))).mono ?_); rintro e v1 ⟨rfl, g1⟩; have G1 := Lib.hid (((gr_al _ _).trans (gr_al _ _)).trans g1); clear g1) | (go_at_call 13; (with_reducible refine (AW.out _).mono ?_); rintro e v2 ⟨rfl, g2⟩; have G2 := Lib.hid (G1.out.trans g2); clear g2)))
      go_ret
      exact ⟨rfl, G2.out⟩
    · go_enter Try.func11, Try.ntmps11
      go_upto_region 3 with ((first | (go_at_call 12; (with_reducible refine (C12.out _ _ ((gr_al _ _).trans (gr_al _ _)) (al_at _ _ (by simp))).mono ?_); rintro e v1 ⟨rfl, g1⟩; have B1 := Lib.hid (BX.out.grow ((gr_al _ _).trans g1)); clear g1)))
      clear b0 b1 b2 b3
      obtain ⟨b4, hb4⟩ : ∃ k, w.heap.size = k := ⟨_, rfl⟩
      have H4 := Lib.hid (show v1.heap[b4]? = some (.cells #[iv n, iv x.kind, iv x.var, .slice x.A x.sub.length x.c] 47 (0, 0)) from by rw [← hb4]; exact B1.out.h)
      have G1 := Lib.hid B1.out.gr
      rw [hb4]
      clear hb4 B1 BX
      go_upto_region 4 with ((first | (go_at_call 37; (with_reducible refine (CA.out _).mono ?_); rintro e w4 ⟨p, rfl, hp, ep, g4⟩; have HA := Lib.hid (al_new w4 (.cells #[iv m1, iv p.kind, iv p.var, .slice p.A p.sub.length p.c] 47)); have HP := Lib.hid (TRd.gr hp (gr_al w4 (.cells #[iv m1, iv p.kind, iv p.var, .slice p.A p.sub.length p.c] 47))); have EP := Lib.hid (show p.er = t1 from ep); have G4 := Lib.hid (g4.trans (gr_al w4 (.cells #[iv m1, iv p.kind, iv p.var, .slice p.A p.sub.length p.c] 47))); clear hp ep g4)))
      generalize hW5 : World.alloc w4 _ = W5 at *
      clear hW5
      obtain ⟨k7, hk7⟩ : ∃ k, w4.heap.size = k := ⟨_, rfl⟩
      have HA := Lib.hid (show W5.heap[k7]? = some (.cells #[iv m1, iv p.kind, iv p.var, .slice p.A p.sub.length p.c] 47 (0, 0)) from by rw [← hk7]; exact HA.out)
      rw [hk7]
      clear hk7
      by_cases he2 : e2 = 0
      · subst he2
        have CP5 := Lib.hid (print_any m1 p W5 HP.out)
        rw [EP.out, PQ.out rfl] at CP5
        obtain ⟨d0, d1, d2, d3⟩ := cell4 HA.out
        go_upto_region 8 with ((first | (go_at_call 35; (with_reducible refine CP5.out.mono ?_); rintro e W6 ⟨rfl, g⟩; have GX := Lib.hid (G4.out.trans g); clear g)))
        clear d0 d1 d2 d3 CP5
        have H6 := Lib.hid (gr_h GX.out H4.out)
        have GW := Lib.hid (G1.out.trans GX.out)
        clear HA HP EP G4 G1 H4 GX PQ CA C12
        obtain ⟨b0, b1, b2, b3⟩ := cell4 H6.out
        go_upto_region 9 with ((first | (go_at_call 29; (with_reducible refine (CO.out _ GW.out).mono ?_); rintro e w8 ⟨p2, rfl, hp, ep, g8⟩; have HD := Lib.hid (al_new w8 (.cells #[iv p2.kind, iv p2.var, .slice p2.A p2.sub.length p2.c] 24)); have HP2 := Lib.hid (TRd.gr hp (gr_al w8 (.cells #[iv p2.kind, iv p2.var, .slice p2.A p2.sub.length p2.c] 24))); have EP2 := Lib.hid (show p2.er = t2 from ep); have G8 := Lib.hid (g8.trans (gr_al w8 (.cells #[iv p2.kind, iv p2.var, .slice p2.A p2.sub.length p2.c] 24))); clear hp ep g8)))
        generalize hW9 : World.alloc w8 _ = W9 at *
        clear hW9 b0 b1 b2 b3
        obtain ⟨k11, hk11⟩ : ∃ k, w8.heap.size = k := ⟨_, rfl⟩
        have HD := Lib.hid (show W9.heap[k11]? = some (.cells #[iv p2.kind, iv p2.var, .slice p2.A p2.sub.length p2.c] 24 (0, 0)) from by rw [← hk11]; exact HD.out)
        rw [hk11]
        clear hk11
        have G9 := Lib.hid (GW.out.trans G8.out)
        have H9 := Lib.hid (gr_h G8.out H6.out)
        clear GW G8 H6 CO
        by_cases he3 : e3 = 0
        · subst he3
          have KB := Lib.hid (fun V (g : Gr W9 V) => cell4 (gr_h g H9.out))
          by_cases hn : (N : Int) = n
          · have hbn : ((N : Int) != n) = false := by simpa using hn
            obtain ⟨o0, ht2, hm2⟩ := OG.out rfl hn
            rw [op0_rep o0] at ht2
            subst ht2 hm2
            have I0 := Lib.hid (op0_inst o0)
            have L0 := Lib.hid (op0_close o0)
            have P0 := Lib.hid (op0_print o0)
            have BN := Lib.hid (sval_bd o0.v)
            have CC := Lib.hid (fun V (g : Gr W9 V) => show Calls Try.prog 27 #[.agg #[iv p2.kind, iv p2.var, .slice p2.A p2.sub.length p2.c], .slice none 0 0] V (SEP V ((n, x.er), 0)) from by
              have h := close_any p2 none 0 [] V (TRd.gr HP2.out g) RD.nil (by simp)
              rw [EP2.out, L0.out] at h
              exact h)
            obtain ⟨e0, e1, e2⟩ := (cell3 HD.out).1
            have KD := Lib.hid (fun V (g : Gr W9 V) => (cell3 (gr_h g HD.out)).1)
            clear o0 OG e0 e1 e2
            go_region_held3 (fun V => (V.cell? ⟨b4, 0, none⟩ = some (iv n) ∧ V.cell? ⟨b4, 1, none⟩ = some (iv x.kind) ∧ V.cell? ⟨b4, 2, none⟩ = some (iv x.var) ∧ V.cell? ⟨b4, 3, none⟩ = some (.slice x.A x.sub.length x.c))) (first | with_reducible exact KB.out _ Z1.out | with_reducible exact KB.out _ (gr_drew _) | with_reducible exact KB.out _ (gr_refl _) | go_keep) (first | (go_at_call 20; (with_reducible refine (CV.out _ (G9.out.trans (gr_drew _))).mono ?_); rintro e z1 ⟨⟨A, c, rfl⟩, g⟩; have Z1 := Lib.hid ((gr_drew W9).trans g); clear g))
            obtain ⟨e0, e1, e2⟩ := KD.out _ Z1.out
            go_upto_region 12 with ((first | (go_at_call 27; (with_reducible refine (CC.out _ Z1.out).mono ?_); rintro e w12 ⟨q, rfl, hq, eq, g⟩; have HQ := Lib.hid (TRd.gr hq (gr_al w12 (.cells #[iv n, iv q.kind, iv q.var, .slice q.A q.sub.length q.c] 47))); have EQ := Lib.hid (show q.er = x.er from eq); have HC := Lib.hid (al_new w12 (.cells #[iv n, iv q.kind, iv q.var, .slice q.A q.sub.length q.c] 47)); have G12 := Lib.hid ((Z1.out.trans g).trans (gr_al w12 (.cells #[iv n, iv q.kind, iv q.var, .slice q.A q.sub.length q.c] 47))); clear hq eq g)))
            generalize hW13 : World.alloc w12 _ = W13 at *
            clear hW13
            obtain ⟨k14, hk14⟩ : ∃ k, w12.heap.size = k := ⟨_, rfl⟩
            have HC := Lib.hid (show W13.heap[k14]? = some (.cells #[iv n, iv q.kind, iv q.var, .slice q.A q.sub.length q.c] 47 (0, 0)) from by rw [← hk14]; exact HC.out)
            rw [hk14]
            clear hk14
            have G13 := Lib.hid (G9.out.trans G12.out)
            have HQ := Lib.hid HQ.out
            have CI := Lib.hid (show Calls Try.prog 32 #[.agg #[iv n, iv x.kind, iv x.var, .slice x.A x.sub.length x.c], .agg #[iv p2.kind, iv p2.var, .slice p2.A p2.sub.length p2.c]] W13 (fun e w' => e = .returned (.bool true) ∧ Gr W13 w') from by
              have h := instance_any ⟨n, x⟩ p2 W13 (XR.out _ G13.out) (TRd.gr HP2.out G12.out)
              simp only [EP2.out, I0.out] at h
              exact h)
            have CZ := Lib.hid (fun V (g : Gr W13 V) => samesc_yes n q x V (TRd.gr HQ.out g) (XR.out _ (G13.out.trans g)) EQ.out)
            have hkn : 0 ≤ k + n ∧ k + n ≤ 70000 := by have := BN.out; omega
            have wkn : IntKind.i64.wrap (k + n) = k + n := IntWalk.i64_in _ (by omega)
            obtain ⟨b0, b1, b2, b3⟩ := cell4 (gr_h G12.out H9.out)
            obtain ⟨⟨c0, c1, c2⟩, -⟩ := cell3 (gr_h G12.out HD.out)
            obtain ⟨d0, d1, d2, d3⟩ := cell4 HC.out
            go_upto_region 14 with ((first | (go_at_call 32; (with_reducible refine CI.out.mono ?_); rintro e w14 ⟨rfl, g⟩; have G14 := Lib.hid g; clear g b0 b1 b2 b3 d0 d1 d2 d3; obtain ⟨b0, b1, b2, b3⟩ := cell4 (gr_h (G12.out.trans G14.out) H9.out); obtain ⟨d0, d1, d2, d3⟩ := cell4 (gr_h G14.out HC.out)) | (go_at_call 31; (with_reducible refine (CZ.out _ G14.out).mono ?_); rintro e w15 ⟨rfl, g⟩; have G15 := Lib.hid (G14.out.trans g); clear g b0 b1 b2 b3 d0 d1 d2 d3)))
            obtain ⟨b0, b1, b2, b3⟩ := cell4 (gr_h (G12.out.trans G15.out) H9.out)
            have CQ := Lib.hid (fun V (g : Gr w V) => CP.out V g)
            rcases P0.out with ⟨hp1, hp2⟩ | ⟨hp1, hp2⟩
            · rw [hp1] at CQ
              have CW := Lib.hid (fun V => parse_any (txt x.er) V)
              rw [hp2] at CW
              clear hp1 hp2 P0 I0 L0
              go_upto_region 18 with ((first | (go_at_call 35; (with_reducible refine (CQ.out _ (G13.out.trans G15.out)).mono ?_); rintro e w16 ⟨rfl, g⟩; have G16 := Lib.hid (G15.out.trans g); clear g b0 b1 b2 b3) | (go_at_call 37; (with_reducible refine (CW.out _).mono ?_); rintro e w17 ⟨r, rfl, hr, er, g⟩; have HR := Lib.hid (TRd.gr hr (gr_al w17 (.cells #[iv n, iv r.kind, iv r.var, .slice r.A r.sub.length r.c] 47))); have ER := Lib.hid (show r.er = x.er from er); have HE := Lib.hid (al_new w17 (.cells #[iv n, iv r.kind, iv r.var, .slice r.A r.sub.length r.c] 47)); have G17 := Lib.hid ((G16.out.trans g).trans (gr_al w17 (.cells #[iv n, iv r.kind, iv r.var, .slice r.A r.sub.length r.c] 47))); clear hr er g)))
              generalize hW18 : World.alloc w17 _ = W18 at *
              clear hW18
              obtain ⟨k18, hk18⟩ : ∃ k, w17.heap.size = k := ⟨_, rfl⟩
              have HE := Lib.hid (show W18.heap[k18]? = some (.cells #[iv n, iv r.kind, iv r.var, .slice r.A r.sub.length r.c] 47 (0, 0)) from by rw [← hk18]; exact HE.out)
              rw [hk18]
              clear hk18
              have G18 := Lib.hid (G13.out.trans G17.out)
              have CZ2 := Lib.hid (samesc_yes n r x W18 HR.out (XR.out _ G18.out) ER.out)
              obtain ⟨b0, b1, b2, b3⟩ := cell4 (gr_h (G12.out.trans G17.out) H9.out)
              obtain ⟨d0, d1, d2, d3⟩ := cell4 HE.out
              go_wp2_with ((first | (go_at_call 31; (with_reducible refine CZ2.out.mono ?_); rintro e w19 ⟨rfl, g⟩; have G19 := Lib.hid (G18.out.trans g); clear g) | (go_at_call 13; (with_reducible refine (AW.out _).mono ?_); rintro e w20 ⟨rfl, g⟩; have G20 := Lib.hid (G19.out.trans g); clear g)))
              go_ret
              exact ⟨rfl, G20.out⟩
            · rw [hp1] at CQ
              have hpb : (decide (26 < n)) = true := decide_eq_true hp2
              clear hp1 hp2 P0 I0 L0
              go_wp2_with ((first | (go_at_call 35; (with_reducible refine (CQ.out _ (G13.out.trans G15.out)).mono ?_); rintro e w16 ⟨rfl, g⟩; have G16 := Lib.hid (G15.out.trans g); clear g b0 b1 b2 b3; obtain ⟨b0, b1, b2, b3⟩ := cell4 (gr_h (G12.out.trans G16.out) H9.out)) | (go_at_call 13; (with_reducible refine (AW.out _).mono ?_); rintro e w20 ⟨rfl, g⟩; have G20 := Lib.hid (G16.out.trans g); clear g)))
              go_ret
              exact ⟨rfl, G13.out.trans G20.out⟩
          · have hbn : ((N : Int) != n) = true := by simpa using hn
            go_region_held3 (fun V => (V.cell? ⟨b4, 0, none⟩ = some (iv n) ∧ V.cell? ⟨b4, 1, none⟩ = some (iv x.kind) ∧ V.cell? ⟨b4, 2, none⟩ = some (iv x.var) ∧ V.cell? ⟨b4, 3, none⟩ = some (.slice x.A x.sub.length x.c))) (first | with_reducible exact KB.out _ Z1.out | with_reducible exact KB.out _ (gr_drew _) | with_reducible exact KB.out _ (gr_refl _) | go_keep) (first | (go_at_call 20; (with_reducible refine (CV.out _ (G9.out.trans (gr_drew _))).mono ?_); rintro e z1 ⟨⟨A, c, rfl⟩, g⟩; have Z1 := Lib.hid ((gr_drew W9).trans g); clear g))
            go_wp2_with ((first | (go_at_call 13; (with_reducible refine (AW.out _).mono ?_); rintro e z9 ⟨rfl, g⟩; have Z2 := Lib.hid (Z1.out.trans g); clear g)))
            go_ret
            exact ⟨rfl, G9.out.trans Z2.out⟩
        · have hb3 : (e3 != 0) = true := by simpa using he3
          go_quiet (fail)
          go_wp2_with ((first | (go_at_call 13; (with_reducible refine (AW.out _).mono ?_); rintro e z9 ⟨rfl, g⟩; have Z2 := Lib.hid ((gr_drewN _ _).trans g); clear g)))
          go_ret
          exact ⟨rfl, G9.out.trans Z2.out⟩
      · have hb2 : (e2 == 0) = false := by simpa using he2
        go_upto_region 8 with (fail)
        have H6 := Lib.hid (gr_h G4.out H4.out)
        have GW := Lib.hid (G1.out.trans G4.out)
        obtain ⟨W6, hW6⟩ : ∃ W, W5 = W := ⟨_, rfl⟩
        subst hW6
        clear HA HP EP G4 G1 H4 PQ CA C12
        obtain ⟨b0, b1, b2, b3⟩ := cell4 H6.out
        go_upto_region 9 with ((first | (go_at_call 29; (with_reducible refine (CO.out _ GW.out).mono ?_); rintro e w8 ⟨p2, rfl, hp, ep, g8⟩; have HD := Lib.hid (al_new w8 (.cells #[iv p2.kind, iv p2.var, .slice p2.A p2.sub.length p2.c] 24)); have HP2 := Lib.hid (TRd.gr hp (gr_al w8 (.cells #[iv p2.kind, iv p2.var, .slice p2.A p2.sub.length p2.c] 24))); have EP2 := Lib.hid (show p2.er = t2 from ep); have G8 := Lib.hid (g8.trans (gr_al w8 (.cells #[iv p2.kind, iv p2.var, .slice p2.A p2.sub.length p2.c] 24))); clear hp ep g8)))
        generalize hW9 : World.alloc w8 _ = W9 at *
        clear hW9 b0 b1 b2 b3
        obtain ⟨k11, hk11⟩ : ∃ k, w8.heap.size = k := ⟨_, rfl⟩
        have HD := Lib.hid (show W9.heap[k11]? = some (.cells #[iv p2.kind, iv p2.var, .slice p2.A p2.sub.length p2.c] 24 (0, 0)) from by rw [← hk11]; exact HD.out)
        rw [hk11]
        clear hk11
        have G9 := Lib.hid (GW.out.trans G8.out)
        have H9 := Lib.hid (gr_h G8.out H6.out)
        clear GW G8 H6 CO
        by_cases he3 : e3 = 0
        · subst he3
          have KB := Lib.hid (fun V (g : Gr W9 V) => cell4 (gr_h g H9.out))
          by_cases hn : (N : Int) = n
          · have hbn : ((N : Int) != n) = false := by simpa using hn
            obtain ⟨o0, ht2, hm2⟩ := OG.out rfl hn
            rw [op0_rep o0] at ht2
            subst ht2 hm2
            have I0 := Lib.hid (op0_inst o0)
            have L0 := Lib.hid (op0_close o0)
            have P0 := Lib.hid (op0_print o0)
            have BN := Lib.hid (sval_bd o0.v)
            have CC := Lib.hid (fun V (g : Gr W9 V) => show Calls Try.prog 27 #[.agg #[iv p2.kind, iv p2.var, .slice p2.A p2.sub.length p2.c], .slice none 0 0] V (SEP V ((n, x.er), 0)) from by
              have h := close_any p2 none 0 [] V (TRd.gr HP2.out g) RD.nil (by simp)
              rw [EP2.out, L0.out] at h
              exact h)
            obtain ⟨e0, e1, e2⟩ := (cell3 HD.out).1
            have KD := Lib.hid (fun V (g : Gr W9 V) => (cell3 (gr_h g HD.out)).1)
            clear o0 OG e0 e1 e2
            go_region_held3 (fun V => (V.cell? ⟨b4, 0, none⟩ = some (iv n) ∧ V.cell? ⟨b4, 1, none⟩ = some (iv x.kind) ∧ V.cell? ⟨b4, 2, none⟩ = some (iv x.var) ∧ V.cell? ⟨b4, 3, none⟩ = some (.slice x.A x.sub.length x.c))) (first | with_reducible exact KB.out _ Z1.out | with_reducible exact KB.out _ (gr_drew _) | with_reducible exact KB.out _ (gr_refl _) | go_keep) (first | (go_at_call 20; (with_reducible refine (CV.out _ (G9.out.trans (gr_drew _))).mono ?_); rintro e z1 ⟨⟨A, c, rfl⟩, g⟩; have Z1 := Lib.hid ((gr_drew W9).trans g); clear g))
            obtain ⟨e0, e1, e2⟩ := KD.out _ Z1.out
            go_upto_region 12 with ((first | (go_at_call 27; (with_reducible refine (CC.out _ Z1.out).mono ?_); rintro e w12 ⟨q, rfl, hq, eq, g⟩; have HQ := Lib.hid (TRd.gr hq (gr_al w12 (.cells #[iv n, iv q.kind, iv q.var, .slice q.A q.sub.length q.c] 47))); have EQ := Lib.hid (show q.er = x.er from eq); have HC := Lib.hid (al_new w12 (.cells #[iv n, iv q.kind, iv q.var, .slice q.A q.sub.length q.c] 47)); have G12 := Lib.hid ((Z1.out.trans g).trans (gr_al w12 (.cells #[iv n, iv q.kind, iv q.var, .slice q.A q.sub.length q.c] 47))); clear hq eq g)))
            generalize hW13 : World.alloc w12 _ = W13 at *
            clear hW13
            obtain ⟨k14, hk14⟩ : ∃ k, w12.heap.size = k := ⟨_, rfl⟩
            have HC := Lib.hid (show W13.heap[k14]? = some (.cells #[iv n, iv q.kind, iv q.var, .slice q.A q.sub.length q.c] 47 (0, 0)) from by rw [← hk14]; exact HC.out)
            rw [hk14]
            clear hk14
            have G13 := Lib.hid (G9.out.trans G12.out)
            have HQ := Lib.hid HQ.out
            have CI := Lib.hid (show Calls Try.prog 32 #[.agg #[iv n, iv x.kind, iv x.var, .slice x.A x.sub.length x.c], .agg #[iv p2.kind, iv p2.var, .slice p2.A p2.sub.length p2.c]] W13 (fun e w' => e = .returned (.bool true) ∧ Gr W13 w') from by
              have h := instance_any ⟨n, x⟩ p2 W13 (XR.out _ G13.out) (TRd.gr HP2.out G12.out)
              simp only [EP2.out, I0.out] at h
              exact h)
            have CZ := Lib.hid (fun V (g : Gr W13 V) => samesc_yes n q x V (TRd.gr HQ.out g) (XR.out _ (G13.out.trans g)) EQ.out)
            have hkn : 0 ≤ k + n ∧ k + n ≤ 70000 := by have := BN.out; omega
            have wkn : IntKind.i64.wrap (k + n) = k + n := IntWalk.i64_in _ (by omega)
            obtain ⟨b0, b1, b2, b3⟩ := cell4 (gr_h G12.out H9.out)
            obtain ⟨⟨c0, c1, c2⟩, -⟩ := cell3 (gr_h G12.out HD.out)
            obtain ⟨d0, d1, d2, d3⟩ := cell4 HC.out
            go_upto_region 14 with ((first | (go_at_call 32; (with_reducible refine CI.out.mono ?_); rintro e w14 ⟨rfl, g⟩; have G14 := Lib.hid g; clear g b0 b1 b2 b3 d0 d1 d2 d3; obtain ⟨b0, b1, b2, b3⟩ := cell4 (gr_h (G12.out.trans G14.out) H9.out); obtain ⟨d0, d1, d2, d3⟩ := cell4 (gr_h G14.out HC.out)) | (go_at_call 31; (with_reducible refine (CZ.out _ G14.out).mono ?_); rintro e w15 ⟨rfl, g⟩; have G15 := Lib.hid (G14.out.trans g); clear g b0 b1 b2 b3 d0 d1 d2 d3)))
            obtain ⟨b0, b1, b2, b3⟩ := cell4 (gr_h (G12.out.trans G15.out) H9.out)
            have CQ := Lib.hid (fun V (g : Gr w V) => CP.out V g)
            rcases P0.out with ⟨hp1, hp2⟩ | ⟨hp1, hp2⟩
            · rw [hp1] at CQ
              have CW := Lib.hid (fun V => parse_any (txt x.er) V)
              rw [hp2] at CW
              clear hp1 hp2 P0 I0 L0
              go_upto_region 18 with ((first | (go_at_call 35; (with_reducible refine (CQ.out _ (G13.out.trans G15.out)).mono ?_); rintro e w16 ⟨rfl, g⟩; have G16 := Lib.hid (G15.out.trans g); clear g b0 b1 b2 b3) | (go_at_call 37; (with_reducible refine (CW.out _).mono ?_); rintro e w17 ⟨r, rfl, hr, er, g⟩; have HR := Lib.hid (TRd.gr hr (gr_al w17 (.cells #[iv n, iv r.kind, iv r.var, .slice r.A r.sub.length r.c] 47))); have ER := Lib.hid (show r.er = x.er from er); have HE := Lib.hid (al_new w17 (.cells #[iv n, iv r.kind, iv r.var, .slice r.A r.sub.length r.c] 47)); have G17 := Lib.hid ((G16.out.trans g).trans (gr_al w17 (.cells #[iv n, iv r.kind, iv r.var, .slice r.A r.sub.length r.c] 47))); clear hr er g)))
              generalize hW18 : World.alloc w17 _ = W18 at *
              clear hW18
              obtain ⟨k18, hk18⟩ : ∃ k, w17.heap.size = k := ⟨_, rfl⟩
              have HE := Lib.hid (show W18.heap[k18]? = some (.cells #[iv n, iv r.kind, iv r.var, .slice r.A r.sub.length r.c] 47 (0, 0)) from by rw [← hk18]; exact HE.out)
              rw [hk18]
              clear hk18
              have G18 := Lib.hid (G13.out.trans G17.out)
              have CZ2 := Lib.hid (samesc_yes n r x W18 HR.out (XR.out _ G18.out) ER.out)
              obtain ⟨b0, b1, b2, b3⟩ := cell4 (gr_h (G12.out.trans G17.out) H9.out)
              obtain ⟨d0, d1, d2, d3⟩ := cell4 HE.out
              go_wp2_with ((first | (go_at_call 31; (with_reducible refine CZ2.out.mono ?_); rintro e w19 ⟨rfl, g⟩; have G19 := Lib.hid (G18.out.trans g); clear g) | (go_at_call 13; (with_reducible refine (AW.out _).mono ?_); rintro e w20 ⟨rfl, g⟩; have G20 := Lib.hid (G19.out.trans g); clear g)))
              go_ret
              exact ⟨rfl, G20.out⟩
            · rw [hp1] at CQ
              have hpb : (decide (26 < n)) = true := decide_eq_true hp2
              clear hp1 hp2 P0 I0 L0
              go_wp2_with ((first | (go_at_call 35; (with_reducible refine (CQ.out _ (G13.out.trans G15.out)).mono ?_); rintro e w16 ⟨rfl, g⟩; have G16 := Lib.hid (G15.out.trans g); clear g b0 b1 b2 b3; obtain ⟨b0, b1, b2, b3⟩ := cell4 (gr_h (G12.out.trans G16.out) H9.out)) | (go_at_call 13; (with_reducible refine (AW.out _).mono ?_); rintro e w20 ⟨rfl, g⟩; have G20 := Lib.hid (G16.out.trans g); clear g)))
              go_ret
              exact ⟨rfl, G13.out.trans G20.out⟩
          · have hbn : ((N : Int) != n) = true := by simpa using hn
            go_region_held3 (fun V => (V.cell? ⟨b4, 0, none⟩ = some (iv n) ∧ V.cell? ⟨b4, 1, none⟩ = some (iv x.kind) ∧ V.cell? ⟨b4, 2, none⟩ = some (iv x.var) ∧ V.cell? ⟨b4, 3, none⟩ = some (.slice x.A x.sub.length x.c))) (first | with_reducible exact KB.out _ Z1.out | with_reducible exact KB.out _ (gr_drew _) | with_reducible exact KB.out _ (gr_refl _) | go_keep) (first | (go_at_call 20; (with_reducible refine (CV.out _ (G9.out.trans (gr_drew _))).mono ?_); rintro e z1 ⟨⟨A, c, rfl⟩, g⟩; have Z1 := Lib.hid ((gr_drew W9).trans g); clear g))
            go_wp2_with ((first | (go_at_call 13; (with_reducible refine (AW.out _).mono ?_); rintro e z9 ⟨rfl, g⟩; have Z2 := Lib.hid (Z1.out.trans g); clear g)))
            go_ret
            exact ⟨rfl, G9.out.trans Z2.out⟩
        · have hb3 : (e3 != 0) = true := by simpa using he3
          go_quiet (fail)
          go_wp2_with ((first | (go_at_call 13; (with_reducible refine (AW.out _).mono ?_); rintro e z9 ⟨rfl, g⟩; have Z2 := Lib.hid ((gr_drewN _ _).trans g); clear g)))
          go_ret
          exact ⟨rfl, G9.out.trans Z2.out⟩
end Go.Proofs.Ytjlmhfdigoogfaa
