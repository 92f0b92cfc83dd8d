/- The law TypesText (10). -/
import Derived.Test.YtjlmhfdigoogfaaTxM
import Derived.Test.YtjlmhfdigoogfaaTxL
import Derived.Test.YtjlmhfdigoogfaaLawG
namespace Go.Proofs.Ytjlmhfdigoogfaa
open Go.RowKit

attribute [local irreducible] Calls in
set_option maxRecDepth 100000 in
set_option maxHeartbeats 16000000 in
theorem law_text_any (s t : Sc) (l : T) (w : World) (hs : s.ty.Rd w) (ht : t.ty.Rd w) (hl : l.length ≤ 9223372036854775807) : Calls Try.prog 10 #[s.v, t.v, tv l] w fun e w' => e = .returned (.bool true) ∧ Gr w w' := by
  obtain ⟨n, x⟩ := s
  obtain ⟨m, y⟩ := t
  simp only at hs ht
  have AW := Lib.hid awake_any
  have C12 := Lib.hid (fun V k (g : Gr w V) => great_two x y V (TRd.gr hs g) (TRd.gr ht g) k)
  have CP := Lib.hid (fun V (g : Gr w V) => print_any n x V (TRd.gr hs g))
  have CQ := Lib.hid (fun V (g : Gr w V) => rprint_any n x V (TRd.gr hs g))
  have CA := Lib.hid (fun V => parse_any l V)
  have CB := Lib.hid (fun V (h : l.length ≤ 200) => rparse_any l V (by omega))
  have CM := Lib.hid (fun V (g : Gr w V) => show Calls Try.prog 34 #[.agg #[iv n, iv x.kind, iv x.var, .slice x.A x.sub.length x.c], .agg #[iv m, iv y.kind, iv y.var, .slice y.A y.sub.length y.c]] V (fun e w' => e = .returned (.bool (moreP n x.er m y.er)) ∧ Gr V w') from more_any ⟨n, x⟩ ⟨m, y⟩ V (TRd.gr hs g) (TRd.gr ht g))
  have CN := Lib.hid (fun V (g : Gr w V) => show Calls Try.prog 39 #[.agg #[iv n, iv x.kind, iv x.var, .slice x.A x.sub.length x.c], .agg #[iv m, iv y.kind, iv y.var, .slice y.A y.sub.length y.c]] V (fun e w' => e = .returned (.bool (moreP n x.er m y.er)) ∧ Gr V w') from rmore_any ⟨n, x⟩ ⟨m, y⟩ V (TRd.gr hs g) (TRd.gr ht g))
  have CZ := Lib.hid (fun (m : Int) (p q : Ty) V (hp : p.Rd V) (hq : q.Rd V) (e : p.er = q.er) => show Calls Try.prog 31 #[.agg #[iv m, iv p.kind, iv p.var, .slice p.A p.sub.length p.c], .agg #[iv m, iv q.kind, iv q.var, .slice q.A q.sub.length q.c]] V (fun e w' => e = .returned (.bool true) ∧ Gr V w') from by
    have h := samesc_any ⟨m, p⟩ ⟨m, q⟩ V hp hq
    rw [(seq_iff _ _).2 e] at h
    simp only [BEq.rfl, Bool.true_and] at h
    exact h)
  obtain ⟨P, hP⟩ : ∃ R, prE n x.er = R := ⟨_, rfl⟩
  obtain ⟨S, hS⟩ : ∃ R, psE l = R := ⟨_, rfl⟩
  obtain ⟨ib, hib⟩ : ∃ b, moreP n x.er m y.er = b := ⟨_, rfl⟩
  simp only [hP] at CP CQ
  simp only [hS] at CA CB
  simp only [hib] at CM CN
  obtain ⟨P1, e1⟩ := P
  obtain ⟨⟨m1, t1⟩, e2⟩ := S
  have BX := Lib.hid (BS.of n x.kind x.var (.slice x.A x.sub.length x.c) m y.kind y.var (.slice y.A y.sub.length y.c) w)
  unfold Sc.v
  obtain ⟨g, hg⟩ : ∃ g, (grt x.er || grt y.er) = g := ⟨_, rfl⟩
  simp only [hg] at C12
  clear hg hs ht hP hS hib
  obtain ⟨b0, b1, b2, b3⟩ := cell4 BX.out.h
  obtain ⟨c0, c1, c2, c3⟩ := cell4 BX.out.h'
  cases g with
  | true =>
    go_enter Try.func10, Try.ntmps10
    go_wp2_with ((first | (go_at_call 12; (with_reducible refine (C12.out _ _ ((gr_al _ _).trans ((gr_al _ _).trans (gr_al _ _))) (al_at _ _ (by simp))).mono ?_); rintro e v1 ⟨rfl, g1⟩; have G1 := Lib.hid (((gr_al _ _).trans ((gr_al _ _).trans (gr_al _ _))).trans g1); clear g1) | (go_at_call 13; (with_reducible refine (AW.out _).mono ?_); rintro e v2 ⟨rfl, g2⟩; have G2 := Lib.hid (G1.out.trans g2); clear g2)))
    go_ret
    exact ⟨rfl, G2.out⟩
  | false =>
    by_cases h20 : 200 < l.length
    · go_enter Try.func10, Try.ntmps10
      go_wp2_with ((first | (go_at_call 12; (with_reducible refine (C12.out _ _ ((gr_al _ _).trans ((gr_al _ _).trans (gr_al _ _))) (al_at _ _ (by simp))).mono ?_); rintro e v1 ⟨rfl, g1⟩; have G1 := Lib.hid (((gr_al _ _).trans ((gr_al _ _).trans (gr_al _ _))).trans g1); clear g1) | (go_at_call 13; (with_reducible refine (AW.out _).mono ?_); rintro e v2 ⟨rfl, g2⟩; have G2 := Lib.hid (G1.out.trans g2); clear g2)))
      go_ret
      exact ⟨rfl, G2.out⟩
    · have HN := Lib.hid (show l.length ≤ 200 from by omega)
      go_enter Try.func10, Try.ntmps10
      go_upto_region 3 with ((first | (go_at_call 12; (with_reducible refine (C12.out _ _ ((gr_al _ _).trans ((gr_al _ _).trans (gr_al _ _))) (al_at _ _ (by simp))).mono ?_); rintro e v1 ⟨rfl, g1⟩; have B1 := Lib.hid (BX.out.grow ((gr_al _ _).trans g1)); clear g1)))
      clear b0 b1 b2 b3 c0 c1 c2 c3
      obtain ⟨b4, hb4⟩ : ∃ k, w.heap.size = k := ⟨_, rfl⟩
      have H4 := Lib.hid (show v1.heap[b4]? = some (.cells #[iv n, iv x.kind, iv x.var, .slice x.A x.sub.length x.c] 47 (0, 0)) from by rw [← hb4]; exact B1.out.h)
      have H5 := Lib.hid (show v1.heap[b4 + 1]? = some (.cells #[iv m, iv y.kind, iv y.var, .slice y.A y.sub.length y.c] 47 (0, 0)) from by rw [← hb4]; exact B1.out.h')
      have G1 := Lib.hid B1.out.gr
      rw [hb4]
      clear hb4 B1 BX
      obtain ⟨b0, b1, b2, b3⟩ := cell4 H4.out
      go_upto_region 5 with ((first | (go_at_call 35; (with_reducible refine (CP.out _ G1.out).mono ?_); rintro e v2 ⟨rfl, g2⟩; have G2 := Lib.hid g2; clear g2 b0 b1 b2 b3; obtain ⟨b0, b1, b2, b3⟩ := cell4 (gr_h G2.out H4.out)) | (go_at_call 36; (with_reducible refine (CQ.out _ (G1.out.trans G2.out)).mono ?_); rintro e v3 ⟨rfl, g3⟩; have G3 := Lib.hid (G2.out.trans g3); clear g3 b0 b1 b2 b3)))
      go_upto_region 6 with ((first | (go_at_call 37; (with_reducible refine (CA.out _).mono ?_); rintro e w4 ⟨p, rfl, hp, ep, g4⟩; have HA := Lib.hid (al_new w4 (.cells #[iv m1, iv p.kind, iv p.var, .slice p.A p.sub.length p.c] 47)); have HP := Lib.hid (TRd.gr hp (gr_al w4 (.cells #[iv m1, iv p.kind, iv p.var, .slice p.A p.sub.length p.c] 47))); have EP := Lib.hid ep; have G4 := Lib.hid (G3.out.trans (g4.trans (gr_al w4 (.cells #[iv m1, iv p.kind, iv p.var, .slice p.A p.sub.length p.c] 47)))); clear hp ep g4)))
      generalize hW5 : World.alloc w4 _ = W5 at *
      clear hW5
      obtain ⟨k11, hk11⟩ : ∃ k, w4.heap.size = k := ⟨_, rfl⟩
      have HA := Lib.hid (show W5.heap[k11]? = some (.cells #[iv m1, iv p.kind, iv p.var, .slice p.A p.sub.length p.c] 47 (0, 0)) from by rw [← hk11]; exact HA.out)
      rw [hk11]
      clear hk11
      go_upto_region 7 with ((first | (go_at_call 38; (with_reducible refine (CB.out _ HN.out).mono ?_); rintro e w6 ⟨q, rfl, hq, eq, g6⟩; have HC := Lib.hid (al_new w6 (.cells #[iv m1, iv q.kind, iv q.var, .slice q.A q.sub.length q.c] 47)); have HQ := Lib.hid (TRd.gr hq (gr_al w6 (.cells #[iv m1, iv q.kind, iv q.var, .slice q.A q.sub.length q.c] 47))); have EQ := Lib.hid eq; have G6 := Lib.hid (g6.trans (gr_al w6 (.cells #[iv m1, iv q.kind, iv q.var, .slice q.A q.sub.length q.c] 47))); clear hq eq g6)))
      generalize hW7 : World.alloc w6 _ = W7 at *
      clear hW7
      obtain ⟨k13, hk13⟩ : ∃ k, w6.heap.size = k := ⟨_, rfl⟩
      have HC := Lib.hid (show W7.heap[k13]? = some (.cells #[iv m1, iv q.kind, iv q.var, .slice q.A q.sub.length q.c] 47 (0, 0)) from by rw [← hk13]; exact HC.out)
      rw [hk13]
      clear hk13
      have G7 := Lib.hid (G1.out.trans (G4.out.trans G6.out))
      have KB := Lib.hid (fun V (g : Gr W7 V) => (⟨cell4 (gr_h ((G4.out.trans G6.out).trans g) H4.out), cell4 (gr_h ((G4.out.trans G6.out).trans g) H5.out), cell4 (gr_h (G6.out.trans g) HA.out), cell4 (gr_h g HC.out)⟩ : (V.cell? ⟨b4, 0, none⟩ = some (iv n) ∧ V.cell? ⟨b4, 1, none⟩ = some (iv x.kind) ∧ V.cell? ⟨b4, 2, none⟩ = some (iv x.var) ∧ V.cell? ⟨b4, 3, none⟩ = some (.slice x.A x.sub.length x.c)) ∧ (V.cell? ⟨b4 + 1, 0, none⟩ = some (iv m) ∧ V.cell? ⟨b4 + 1, 1, none⟩ = some (iv y.kind) ∧ V.cell? ⟨b4 + 1, 2, none⟩ = some (iv y.var) ∧ V.cell? ⟨b4 + 1, 3, none⟩ = some (.slice y.A y.sub.length y.c)) ∧ (V.cell? ⟨k11, 0, none⟩ = some (iv m1) ∧ V.cell? ⟨k11, 1, none⟩ = some (iv p.kind) ∧ V.cell? ⟨k11, 2, none⟩ = some (iv p.var) ∧ V.cell? ⟨k11, 3, none⟩ = some (.slice p.A p.sub.length p.c)) ∧ (V.cell? ⟨k13, 0, none⟩ = some (iv m1) ∧ V.cell? ⟨k13, 1, none⟩ = some (iv q.kind) ∧ V.cell? ⟨k13, 2, none⟩ = some (iv q.var) ∧ V.cell? ⟨k13, 3, none⟩ = some (.slice q.A q.sub.length q.c))))
      have C31 := Lib.hid (fun V (g : Gr W7 V) => CZ.out m1 p q V (TRd.gr HP.out (G6.out.trans g)) (TRd.gr HQ.out g) (EP.out.trans EQ.out.symm))
      have C34 := Lib.hid (fun V (g : Gr W7 V) => CM.out V (G7.out.trans g))
      have C39 := Lib.hid (fun V (g : Gr W7 V) => CN.out V (G7.out.trans g))
      clear C12 CP CQ CA CB CM CN CZ H4 H5 HA HC HP HQ EP EQ G1 G2 G3 G4 G6 HN
      go_region_held3 (fun V => (V.cell? ⟨b4, 0, none⟩ = some (iv n) ∧ V.cell? ⟨b4, 1, none⟩ = some (iv x.kind) ∧ V.cell? ⟨b4, 2, none⟩ = some (iv x.var) ∧ V.cell? ⟨b4, 3, none⟩ = some (.slice x.A x.sub.length x.c)) ∧ (V.cell? ⟨b4 + 1, 0, none⟩ = some (iv m) ∧ V.cell? ⟨b4 + 1, 1, none⟩ = some (iv y.kind) ∧ V.cell? ⟨b4 + 1, 2, none⟩ = some (iv y.var) ∧ V.cell? ⟨b4 + 1, 3, none⟩ = some (.slice y.A y.sub.length y.c)) ∧ (V.cell? ⟨k11, 0, none⟩ = some (iv m1) ∧ V.cell? ⟨k11, 1, none⟩ = some (iv p.kind) ∧ V.cell? ⟨k11, 2, none⟩ = some (iv p.var) ∧ V.cell? ⟨k11, 3, none⟩ = some (.slice p.A p.sub.length p.c)) ∧ (V.cell? ⟨k13, 0, none⟩ = some (iv m1) ∧ V.cell? ⟨k13, 1, none⟩ = some (iv q.kind) ∧ V.cell? ⟨k13, 2, none⟩ = some (iv q.var) ∧ V.cell? ⟨k13, 3, none⟩ = some (.slice q.A q.sub.length q.c))) (first | with_reducible exact KB.out _ Z4.out | with_reducible exact KB.out _ Z3.out | with_reducible exact KB.out _ Z2.out | with_reducible exact KB.out _ Z1.out | with_reducible exact KB.out _ (gr_drew _) | with_reducible exact KB.out _ (gr_refl _) | go_keep) (first | (go_at_call 31; (with_reducible refine (C31.out _ (gr_drew _)).mono ?_); rintro e z1 ⟨rfl, g⟩; have Z1 := Lib.hid ((gr_drew _).trans g); clear g) | (go_at_call 34; (with_reducible refine (C34.out _ Z1.out).mono ?_); rintro e z2 ⟨rfl, g⟩; have Z2 := Lib.hid (Z1.out.trans g); clear g) | (go_at_call 39; (with_reducible refine (C39.out _ Z2.out).mono ?_); rintro e z3 ⟨rfl, g⟩; have Z3 := Lib.hid (Z2.out.trans g); clear g) | (go_at_call 13; (with_reducible refine (AW.out _).mono ?_); rintro e z4 ⟨rfl, g⟩; have Z4 := Lib.hid (Z3.out.trans g); clear g))
      all_goals go_wp2
      all_goals go_ret
      all_goals exact ⟨rfl, G7.out.trans Z4.out⟩
end Go.Proofs.Ytjlmhfdigoogfaa
