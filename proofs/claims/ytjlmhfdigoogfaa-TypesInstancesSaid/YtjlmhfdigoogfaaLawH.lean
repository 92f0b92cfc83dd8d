/- The law TypesSchemes (7). -/
import Derived.Test.YtjlmhfdigoogfaaInC
import Derived.Test.YtjlmhfdigoogfaaLawG
namespace Go.Proofs.Ytjlmhfdigoogfaa
open Go.RowKit

set_option maxRecDepth 100000 in
set_option maxHeartbeats 16000000 in
theorem law_schemes_any (s : Sc) (x : Ty) (A : Option Addr) (c : Nat) (L : List Int) (next : Int) (w : World) (hs : s.ty.Rd w) (hx : x.Rd w) (hL : RD 1 NC w A L) (hl : L.length ≤ 9223372036854775807) : Calls Try.prog 7 #[s.v, x.v, .slice A L.length c, iv next] w fun e w' => e = .returned (.bool true) ∧ Gr w w' := by
  obtain ⟨n, y⟩ := s
  simp only at hs
  have AW := Lib.hid awake_any
  have C12 := Lib.hid (fun V k (g : Gr w V) => great_two y x V (TRd.gr hs g) (TRd.gr hx g) k)
  have CA := Lib.hid (fun V (g : Gr w V) (h : L.length ≤ 20) => show Calls Try.prog 27 #[.agg #[iv x.kind, iv x.var, .slice x.A x.sub.length x.c], .slice A L.length c] V (SEP V (clE L x.er)) from close_any x A c L V (TRd.gr hx g) (hL.gr g) (by omega))
  have CB := Lib.hid (fun V (g : Gr w V) (h : L.length ≤ 20) => show Calls Try.prog 28 #[.agg #[iv x.kind, iv x.var, .slice x.A x.sub.length x.c], .slice A L.length c] V (SEP V (clE L x.er)) from rclose_any x A c L V (TRd.gr hx g) (hL.gr g) (by omega))
  have CO := Lib.hid (fun V (g : Gr w V) => open_any n y next V (TRd.gr hs g))
  have CP := Lib.hid (fun V (g : Gr w V) => ropen_any n y next V (TRd.gr hs g))
  have CI := Lib.hid (fun V (g : Gr w V) => show Calls Try.prog 32 #[.agg #[iv n, iv y.kind, iv y.var, .slice y.A y.sub.length y.c], .agg #[iv x.kind, iv x.var, .slice x.A x.sub.length x.c]] V (fun e w' => e = .returned (.bool (instP n y.er x.er)) ∧ Gr V w') from instance_any ⟨n, y⟩ x V (TRd.gr hs g) (TRd.gr hx g))
  have CJ := Lib.hid (fun V (g : Gr w V) => show Calls Try.prog 33 #[.agg #[iv n, iv y.kind, iv y.var, .slice y.A y.sub.length y.c], .agg #[iv x.kind, iv x.var, .slice x.A x.sub.length x.c]] V (fun e w' => e = .returned (.bool (instP n y.er x.er)) ∧ Gr V w') from rinstance_any ⟨n, y⟩ x V (TRd.gr hs g) (TRd.gr hx g))
  have CS := Lib.hid (fun (p q : Ty) V (hp : p.Rd V) (hq : q.Rd V) (e : p.er = q.er) => show Calls Try.prog 25 #[.agg #[iv p.kind, iv p.var, .slice p.A p.sub.length p.c], .agg #[iv q.kind, iv q.var, .slice q.A q.sub.length q.c]] V (fun e w' => e = .returned (.bool true) ∧ Gr V w') from by
    have h := same_any p q V hp hq
    rw [(seq_iff _ _).2 e] at h
    exact h)
  have CZ := Lib.hid (fun (m : Int) (p q : Ty) V (hp : p.Rd V) (hq : q.Rd V) (e : p.er = q.er) => show Calls Try.prog 31 #[.agg #[iv m, iv p.kind, iv p.var, .slice p.A p.sub.length p.c], .agg #[iv m, iv q.kind, iv q.var, .slice q.A q.sub.length q.c]] V (fun e w' => e = .returned (.bool true) ∧ Gr V w') from by
    have h := samesc_any ⟨m, p⟩ ⟨m, q⟩ V hp hq
    rw [(seq_iff _ _).2 e] at h
    simp only [BEq.rfl, Bool.true_and] at h
    exact h)
  obtain ⟨R, hR⟩ : ∃ R, clE L x.er = R := ⟨_, rfl⟩
  obtain ⟨S, hS⟩ : ∃ R, opE n y.er next = R := ⟨_, rfl⟩
  obtain ⟨ib, hib⟩ : ∃ b, instP n y.er x.er = b := ⟨_, rfl⟩
  simp only [hR] at CA CB
  simp only [hS] at CO CP
  simp only [hib] at CI CJ
  obtain ⟨⟨m1, t1⟩, e1⟩ := R
  obtain ⟨⟨t2, m2⟩, e2⟩ := S
  obtain ⟨N, hN⟩ : ∃ N, L.length = N := ⟨_, rfl⟩
  rw [hN] at hl
  simp only [hN] at CA CB ⊢
  have BX := Lib.hid (IBx.of n y.kind y.var (.slice y.A y.sub.length y.c) x.kind x.var (.slice x.A x.sub.length x.c) w)
  unfold Sc.v Ty.v
  obtain ⟨g, hg⟩ : ∃ g, (grt y.er || grt x.er) = g := ⟨_, rfl⟩
  simp only [hg] at C12
  clear hg hs hx hL hR hS hN hib
  obtain ⟨b0, b1, b2, b3⟩ := cell4 BX.out.h
  obtain ⟨⟨c0, c1, c2⟩, -⟩ := cell3 BX.out.h'
  cases g with
  | true =>
    go_enter Try.func7, Try.ntmps7
    go_wp2_with (first | (go_at_call 12; (with_reducible refine (C12.out _ _ ((gr_al _ _).trans ((gr_al _ _).trans (gr_al _ _))) (al_at _ _ (by simp))).mono ?_); rintro e v1 ⟨rfl, g1⟩; have G1 := Lib.hid (((gr_al _ _).trans ((gr_al _ _).trans (gr_al _ _))).trans g1); clear g1) | (go_at_call 13; (with_reducible refine (AW.out _).mono ?_); rintro e v2 ⟨rfl, g2⟩; have G2 := Lib.hid (G1.out.trans g2); clear g2))
    go_ret
    exact ⟨rfl, G2.out⟩
  | false =>
    by_cases h20 : 20 < N
    · go_enter Try.func7, Try.ntmps7
      go_wp2_with (first | (go_at_call 12; (with_reducible refine (C12.out _ _ ((gr_al _ _).trans ((gr_al _ _).trans (gr_al _ _))) (al_at _ _ (by simp))).mono ?_); rintro e v1 ⟨rfl, g1⟩; have G1 := Lib.hid (((gr_al _ _).trans ((gr_al _ _).trans (gr_al _ _))).trans g1); clear g1) | (go_at_call 13; (with_reducible refine (AW.out _).mono ?_); rintro e v2 ⟨rfl, g2⟩; have G2 := Lib.hid (G1.out.trans g2); clear g2))
      go_ret
      exact ⟨rfl, G2.out⟩
    · have HN := Lib.hid (show N ≤ 20 from by omega)
      go_enter Try.func7, Try.ntmps7
      go_upto_region 3 with (first | (go_at_call 12; (with_reducible refine (C12.out _ _ ((gr_al _ _).trans ((gr_al _ _).trans (gr_al _ _))) (al_at _ _ (by simp))).mono ?_); rintro e v1 ⟨rfl, g1⟩; have B1 := Lib.hid (BX.out.grow ((gr_al _ _).trans g1)); clear g1))
      clear b0 b1 b2 b3 c0 c1 c2
      obtain ⟨b4, hb4⟩ : ∃ k, w.heap.size = k := ⟨_, rfl⟩
      have H4 := Lib.hid (show v1.heap[b4]? = some (.cells #[iv n, iv y.kind, iv y.var, .slice y.A y.sub.length y.c] 47 (0, 0)) from by rw [← hb4]; exact B1.out.h)
      have H5 := Lib.hid (show v1.heap[b4 + 1]? = some (.cells #[iv x.kind, iv x.var, .slice x.A x.sub.length x.c] 24 (0, 0)) from by rw [← hb4]; exact B1.out.h')
      have G1 := Lib.hid B1.out.gr
      rw [hb4]
      clear hb4 B1 BX
      obtain ⟨⟨c0, c1, c2⟩, -⟩ := cell3 H5.out
      go_upto_region 4 with (first | (go_at_call 27; (with_reducible refine (CA.out _ G1.out HN.out).mono ?_); rintro e w4 ⟨p, rfl, hp, ep, g4⟩; have GA := Lib.hid (gr_al w4 (.cells #[iv m1, iv p.kind, iv p.var, .slice p.A p.sub.length p.c] 47)); have HA := Lib.hid (al_new w4 (.cells #[iv m1, iv p.kind, iv p.var, .slice p.A p.sub.length p.c] 47)); have HP := Lib.hid hp; have EP := Lib.hid ep; have G4 := Lib.hid (g4.trans (gr_al w4 (.cells #[iv m1, iv p.kind, iv p.var, .slice p.A p.sub.length p.c] 47))); clear hp ep g4))
      generalize hW5 : World.alloc w4 _ = W5 at *
      clear hW5 c0 c1 c2
      obtain ⟨k5, hk5⟩ : ∃ k, w4.heap.size = k := ⟨_, rfl⟩
      have HA := Lib.hid (show W5.heap[k5]? = some (.cells #[iv m1, iv p.kind, iv p.var, .slice p.A p.sub.length p.c] 47 (0, 0)) from by rw [← hk5]; exact HA.out)
      rw [hk5]
      clear hk5
      obtain ⟨⟨c0, c1, c2⟩, -⟩ := cell3 (gr_h G4.out H5.out)
      go_upto_region 5 with (first | (go_at_call 28; (with_reducible refine (CB.out _ (G1.out.trans G4.out) HN.out).mono ?_); rintro e w6 ⟨q, rfl, hq, eq, g6⟩; have GC := Lib.hid (g6.trans (gr_al w6 (.cells #[iv m1, iv q.kind, iv q.var, .slice q.A q.sub.length q.c] 47))); have HC := Lib.hid (al_new w6 (.cells #[iv m1, iv q.kind, iv q.var, .slice q.A q.sub.length q.c] 47)); have HQ := Lib.hid (TRd.gr hq (gr_al w6 (.cells #[iv m1, iv q.kind, iv q.var, .slice q.A q.sub.length q.c] 47))); have EQ := Lib.hid eq; clear hq eq g6))
      generalize hW7 : World.alloc w6 _ = W7 at *
      clear hW7 c0 c1 c2
      obtain ⟨k7, hk7⟩ : ∃ k, w6.heap.size = k := ⟨_, rfl⟩
      have HC := Lib.hid (show W7.heap[k7]? = some (.cells #[iv m1, iv q.kind, iv q.var, .slice q.A q.sub.length q.c] 47 (0, 0)) from by rw [← hk7]; exact HC.out)
      rw [hk7]
      clear hk7
      have G7 := Lib.hid ((G1.out.trans G4.out).trans GC.out)
      have K4 := Lib.hid (gr_h (G4.out.trans GC.out) H4.out)
      have K5 := Lib.hid (gr_h (G4.out.trans GC.out) H5.out)
      have KA := Lib.hid (gr_h GC.out HA.out)
      have KP := Lib.hid (TRd.gr HP.out (GA.out.trans GC.out))
      clear H4 H5 G4 GC G1 HA HP GA
      obtain ⟨b0, b1, b2, b3⟩ := cell4 K4.out
      go_upto_region 6 with (first | (go_at_call 29; (with_reducible refine (CO.out _ G7.out).mono ?_); rintro e w8 ⟨p2, rfl, hp, ep, g8⟩; have GD := Lib.hid (gr_al w8 (.cells #[iv p2.kind, iv p2.var, .slice p2.A p2.sub.length p2.c] 24)); have HD := Lib.hid (al_new w8 (.cells #[iv p2.kind, iv p2.var, .slice p2.A p2.sub.length p2.c] 24)); have HP2 := Lib.hid (TRd.gr hp (gr_al w8 (.cells #[iv p2.kind, iv p2.var, .slice p2.A p2.sub.length p2.c] 24))); have EP2 := Lib.hid ep; have G8 := Lib.hid (g8.trans (gr_al w8 (.cells #[iv p2.kind, iv p2.var, .slice p2.A p2.sub.length p2.c] 24))); clear hp ep g8))
      generalize hW9 : World.alloc w8 _ = W9 at *
      clear hW9 b0 b1 b2 b3 GD
      obtain ⟨k9, hk9⟩ : ∃ k, w8.heap.size = k := ⟨_, rfl⟩
      have HD := Lib.hid (show W9.heap[k9]? = some (.cells #[iv p2.kind, iv p2.var, .slice p2.A p2.sub.length p2.c] 24 (0, 0)) from by rw [← hk9]; exact HD.out)
      rw [hk9]
      clear hk9
      obtain ⟨b0, b1, b2, b3⟩ := cell4 (gr_h G8.out K4.out)
      go_upto_region 7 with (first | (go_at_call 30; (with_reducible refine (CP.out _ (G7.out.trans G8.out)).mono ?_); rintro e w10 ⟨q2, rfl, hq, eq, g10⟩; have HE := Lib.hid (al_new w10 (.cells #[iv q2.kind, iv q2.var, .slice q2.A q2.sub.length q2.c] 24)); have HQ2 := Lib.hid (TRd.gr hq (gr_al w10 (.cells #[iv q2.kind, iv q2.var, .slice q2.A q2.sub.length q2.c] 24))); have EQ2 := Lib.hid eq; have G10 := Lib.hid (g10.trans (gr_al w10 (.cells #[iv q2.kind, iv q2.var, .slice q2.A q2.sub.length q2.c] 24))); clear hq eq g10))
      generalize hW11 : World.alloc w10 _ = W11 at *
      clear hW11 b0 b1 b2 b3
      obtain ⟨k11, hk11⟩ : ∃ k, w10.heap.size = k := ⟨_, rfl⟩
      have HE := Lib.hid (show W11.heap[k11]? = some (.cells #[iv q2.kind, iv q2.var, .slice q2.A q2.sub.length q2.c] 24 (0, 0)) from by rw [← hk11]; exact HE.out)
      rw [hk11]
      clear hk11
      have GG := Lib.hid (G8.out.trans G10.out)
      have GW := Lib.hid (G7.out.trans GG.out)
      have KB := Lib.hid (fun V (g : Gr W11 V) => (⟨cell4 (gr_h (GG.out.trans g) K4.out), (cell3 (gr_h (GG.out.trans g) K5.out)).1, cell4 (gr_h (GG.out.trans g) KA.out), cell4 (gr_h (GG.out.trans g) HC.out), (cell3 (gr_h (G10.out.trans g) HD.out)).1, (cell3 (gr_h g HE.out)).1⟩ : (V.cell? ⟨b4, 0, none⟩ = some (iv n) ∧ V.cell? ⟨b4, 1, none⟩ = some (iv y.kind) ∧ V.cell? ⟨b4, 2, none⟩ = some (iv y.var) ∧ V.cell? ⟨b4, 3, none⟩ = some (.slice y.A y.sub.length y.c)) ∧ (V.cell? ⟨b4 + 1, 0, none⟩ = some (iv x.kind) ∧ V.cell? ⟨b4 + 1, 1, none⟩ = some (iv x.var) ∧ V.cell? ⟨b4 + 1, 2, none⟩ = some (.slice x.A x.sub.length x.c)) ∧ (V.cell? ⟨k5, 0, none⟩ = some (iv m1) ∧ V.cell? ⟨k5, 1, none⟩ = some (iv p.kind) ∧ V.cell? ⟨k5, 2, none⟩ = some (iv p.var) ∧ V.cell? ⟨k5, 3, none⟩ = some (.slice p.A p.sub.length p.c)) ∧ (V.cell? ⟨k7, 0, none⟩ = some (iv m1) ∧ V.cell? ⟨k7, 1, none⟩ = some (iv q.kind) ∧ V.cell? ⟨k7, 2, none⟩ = some (iv q.var) ∧ V.cell? ⟨k7, 3, none⟩ = some (.slice q.A q.sub.length q.c)) ∧ (V.cell? ⟨k9, 0, none⟩ = some (iv p2.kind) ∧ V.cell? ⟨k9, 1, none⟩ = some (iv p2.var) ∧ V.cell? ⟨k9, 2, none⟩ = some (.slice p2.A p2.sub.length p2.c)) ∧ (V.cell? ⟨k11, 0, none⟩ = some (iv q2.kind) ∧ V.cell? ⟨k11, 1, none⟩ = some (iv q2.var) ∧ V.cell? ⟨k11, 2, none⟩ = some (.slice q2.A q2.sub.length q2.c))))
      have C31 := Lib.hid (fun V (g : Gr W11 V) => CZ.out m1 p q V (TRd.gr KP.out (GG.out.trans g)) (TRd.gr HQ.out (GG.out.trans g)) (EP.out.trans EQ.out.symm))
      have C25 := Lib.hid (fun V (g : Gr W11 V) => CS.out p2 q2 V (TRd.gr HP2.out (G10.out.trans g)) (TRd.gr HQ2.out g) (EP2.out.trans EQ2.out.symm))
      have C32 := Lib.hid (fun V (g : Gr W11 V) => CI.out V (GW.out.trans g))
      have C33 := Lib.hid (fun V (g : Gr W11 V) => CJ.out V (GW.out.trans g))
      obtain ⟨⟨b0, b1, b2, b3⟩, ⟨c0, c1, c2⟩, ⟨d0, d1, d2, d3⟩, ⟨f0, f1, f2, f3⟩, ⟨i0, i1, i2⟩, j0, j1, j2⟩ := KB.out _ (gr_refl _)
      clear C12 CA CB CO CP CI CJ CS CZ K4 K5 KA KP HC HD HE HQ HP2 HQ2 EP EQ EP2 EQ2 G7 G8 G10 GG HN
      go_region_held3 (fun V => (V.cell? ⟨b4, 0, none⟩ = some (iv n) ∧ V.cell? ⟨b4, 1, none⟩ = some (iv y.kind) ∧ V.cell? ⟨b4, 2, none⟩ = some (iv y.var) ∧ V.cell? ⟨b4, 3, none⟩ = some (.slice y.A y.sub.length y.c)) ∧ (V.cell? ⟨b4 + 1, 0, none⟩ = some (iv x.kind) ∧ V.cell? ⟨b4 + 1, 1, none⟩ = some (iv x.var) ∧ V.cell? ⟨b4 + 1, 2, none⟩ = some (.slice x.A x.sub.length x.c)) ∧ (V.cell? ⟨k5, 0, none⟩ = some (iv m1) ∧ V.cell? ⟨k5, 1, none⟩ = some (iv p.kind) ∧ V.cell? ⟨k5, 2, none⟩ = some (iv p.var) ∧ V.cell? ⟨k5, 3, none⟩ = some (.slice p.A p.sub.length p.c)) ∧ (V.cell? ⟨k7, 0, none⟩ = some (iv m1) ∧ V.cell? ⟨k7, 1, none⟩ = some (iv q.kind) ∧ V.cell? ⟨k7, 2, none⟩ = some (iv q.var) ∧ V.cell? ⟨k7, 3, none⟩ = some (.slice q.A q.sub.length q.c)) ∧ (V.cell? ⟨k9, 0, none⟩ = some (iv p2.kind) ∧ V.cell? ⟨k9, 1, none⟩ = some (iv p2.var) ∧ V.cell? ⟨k9, 2, none⟩ = some (.slice p2.A p2.sub.length p2.c)) ∧ (V.cell? ⟨k11, 0, none⟩ = some (iv q2.kind) ∧ V.cell? ⟨k11, 1, none⟩ = some (iv q2.var) ∧ V.cell? ⟨k11, 2, none⟩ = some (.slice q2.A q2.sub.length q2.c))) (first | with_reducible exact KB.out _ Z5.out | with_reducible exact KB.out _ Z4.out | with_reducible exact KB.out _ Z3.out | with_reducible exact KB.out _ Z2.out | with_reducible exact KB.out _ Z1.out | with_reducible exact KB.out _ (gr_drew _) | with_reducible exact KB.out _ (gr_refl _) | go_keep) (first | (go_at_call 31; (with_reducible refine (C31.out _ (gr_drew _)).mono ?_); rintro e z1 ⟨rfl, g⟩; have Z1 := Lib.hid ((gr_drew W11).trans g); clear g) | (go_at_call 25; (with_reducible refine (C25.out _ Z1.out).mono ?_); rintro e z2 ⟨rfl, g⟩; have Z2 := Lib.hid (Z1.out.trans g); clear g) | (go_at_call 32; (with_reducible refine (C32.out _ Z2.out).mono ?_); rintro e z3 ⟨rfl, g⟩; have Z3 := Lib.hid (Z2.out.trans g); clear g) | (go_at_call 33; (with_reducible refine (C33.out _ Z3.out).mono ?_); rintro e z4 ⟨rfl, g⟩; have Z4 := Lib.hid (Z3.out.trans g); clear g) | (go_at_call 13; (with_reducible refine (AW.out _).mono ?_); rintro e z5 ⟨rfl, g⟩; have Z5 := Lib.hid (Z4.out.trans g); clear g))
      all_goals go_wp2
      all_goals go_ret
      all_goals exact ⟨rfl, GW.out.trans Z5.out⟩
end Go.Proofs.Ytjlmhfdigoogfaa
