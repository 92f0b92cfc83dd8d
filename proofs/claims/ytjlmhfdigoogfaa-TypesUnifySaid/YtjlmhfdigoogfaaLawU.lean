/- The law TypesUnify (3). -/
import Derived.Test.YtjlmhfdigoogfaaLawG
import Derived.Test.YtjlmhfdigoogfaaRvO
namespace Go.Proofs.Ytjlmhfdigoogfaa
open Go.RowKit

set_option maxRecDepth 100000 in
set_option maxHeartbeats 4000000 in
theorem law_unify_any (a b : Ty) (w : World) (ha : a.Rd w) (hb : b.Rd w) : Calls Try.prog 3 #[a.v, b.v] w fun e w' => e = .returned (.bool true) ∧ Gr w w' := by
  have AW := Lib.hid awake_any
  have C12 := Lib.hid (fun V k (g : Gr w V) => great_two a b V (TRd.gr ha g) (TRd.gr hb g) k)
  have CU := Lib.hid (fun V (g : Gr w V) => show Calls Try.prog 14 #[.agg #[iv a.kind, iv a.var, .slice a.A a.sub.length a.c], .agg #[iv b.kind, iv b.var, .slice b.A b.sub.length b.c]] V (AsP V (uans a.er b.er).1 (uans a.er b.er).2) from unify_asp a b V (TRd.gr ha g) (TRd.gr hb g))
  have CR := Lib.hid (fun V (g : Gr w V) => show Calls Try.prog 15 #[.agg #[iv a.kind, iv a.var, .slice a.A a.sub.length a.c], .agg #[iv b.kind, iv b.var, .slice b.A b.sub.length b.c]] V (AsP V (uans a.er b.er).1 (uans a.er b.er).2) from runify_asp a b V (TRd.gr ha g) (TRd.gr hb g))
  have UL1 := Lib.hid (uans_len a.er b.er)
  obtain ⟨U, hU⟩ : ∃ U, uans a.er b.er = U := ⟨_, rfl⟩
  simp only [hU] at CU CR UL1
  obtain ⟨u, eu⟩ := U
  simp only at CU CR UL1
  have HB := Lib.hid (gr_h (gr_al (w.alloc (.cells #[iv a.kind, iv a.var, .slice a.A a.sub.length a.c] 24)) (.cells #[iv b.kind, iv b.var, .slice b.A b.sub.length b.c] 24)) (al_new w (.cells #[iv a.kind, iv a.var, .slice a.A a.sub.length a.c] 24)))
  have HB2 := Lib.hid (al_at (w.alloc (.cells #[iv a.kind, iv a.var, .slice a.A a.sub.length a.c] 24)) (.cells #[iv b.kind, iv b.var, .slice b.A b.sub.length b.c] 24) (A := w.heap.size + 1) (by simp))
  unfold Ty.v
  obtain ⟨g, hg⟩ : ∃ g, (grt a.er || grt b.er) = g := ⟨_, rfl⟩
  simp only [hg] at C12
  clear hg ha hb hU
  cases g with
  | true =>
    go_enter Try.func3, Try.ntmps3
    go_wp2_with (first | (go_at_call 12; (with_reducible refine (C12.out _ _ ((gr_al _ _).trans ((gr_al _ _).trans (gr_al _ _))) (al_at _ _ (by simp))).mono ?_); rintro e v1 ⟨rfl, g1⟩; have G1 := Lib.hid (((gr_al _ _).trans ((gr_al _ _).trans (gr_al _ _))).trans g1); have H1 := Lib.hid ((gr_al _ _).trans g1); clear g1) | (go_at_call 13; (with_reducible refine (AW.out _).mono ?_); rintro e v2 ⟨rfl, g2⟩; have G2 := Lib.hid (G1.out.trans g2); clear g2))
    go_ret
    exact ⟨rfl, G2.out⟩
  | false =>
    go_enter Try.func3, Try.ntmps3
    go_upto_region 3 with (first | (go_at_call 12; (with_reducible refine (C12.out _ _ ((gr_al _ _).trans ((gr_al _ _).trans (gr_al _ _))) (al_at _ _ (by simp))).mono ?_); rintro e v1 ⟨rfl, g1⟩; have G1 := Lib.hid (((gr_al _ _).trans ((gr_al _ _).trans (gr_al _ _))).trans g1); have H1 := Lib.hid ((gr_al _ _).trans g1); clear g1))
    have HX := Lib.hid (fun V (g : Gr v1 V) => (⟨(cell3 (gr_h (H1.out.trans g) HB.out)).1, (cell3 (gr_h (H1.out.trans g) HB2.out)).1⟩ : (V.cell? ⟨w.heap.size, 0, none⟩ = some (iv a.kind) ∧ V.cell? ⟨w.heap.size, 1, none⟩ = some (iv a.var) ∧ V.cell? ⟨w.heap.size, 2, none⟩ = some (.slice a.A a.sub.length a.c)) ∧ V.cell? ⟨w.heap.size + 1, 0, none⟩ = some (iv b.kind) ∧ V.cell? ⟨w.heap.size + 1, 1, none⟩ = some (iv b.var) ∧ V.cell? ⟨w.heap.size + 1, 2, none⟩ = some (.slice b.A b.sub.length b.c)))
    obtain ⟨⟨a0, a1, a2⟩, b0, b1, b2⟩ := HX.out _ (gr_refl _)
    go_upto_region 4 with (first | (go_at_call 14; (with_reducible refine (CU.out _ G1.out).mono ?_); rintro e v2 ⟨Au, Lu, cu, rfl, hAu, hEu, g2⟩; have HU := Lib.hid hAu; have EU := Lib.hid hEu; have H2 := Lib.hid g2; clear hAu hEu g2))
    clear a0 a1 a2 b0 b1 b2
    obtain ⟨⟨a0, a1, a2⟩, b0, b1, b2⟩ := HX.out _ H2.out
    go_upto_region 5 with (first | (go_at_call 15; (with_reducible refine (CR.out _ (G1.out.trans H2.out)).mono ?_); rintro e v3 ⟨Au2, Lu2, cu2, rfl, hAu, hEu, g3⟩; have HU2 := Lib.hid hAu; have EU2 := Lib.hid hEu; have P3 := Lib.hid g3; have H3 := Lib.hid (H2.out.trans g3); clear hAu hEu g3))
    clear a0 a1 a2 b0 b1 b2
    have HM9 := Lib.hid (show Lu.length ≤ 1000 from by have h := UL1.out; rw [← EU.out, List.length_map] at h; exact h)
    have HM92 := Lib.hid (show Lu2.length ≤ 1000 from by have h := UL1.out; rw [← EU2.out, List.length_map] at h; exact h)
    have CS := Lib.hid (fun V (g : Gr v3 V) => show Calls Try.prog 16 #[.slice Au Lu.length cu, .slice Au2 Lu2.length cu2] V (fun e w' => e = .returned (.bool true) ∧ Gr V w') from by
      have h := sameAssigns_any Au Au2 cu cu2 Lu Lu2 V (HU.out.gr (P3.out.trans g)) (HU2.out.gr g) (by have := HM9.out; omega) (by have := HM92.out; omega)
      rw [asq_true (EU.out.trans EU2.out.symm)] at h
      exact h)
    clear CU CR C12
    go_wp2_with (first | (go_at_call 16; (with_reducible refine (CS.out _ (gr_refl _)).mono ?_); rintro e v8 ⟨rfl, g8⟩; have G8 := Lib.hid g8; clear g8) | (go_at_call 13; (with_reducible refine (AW.out _).mono ?_); rintro e v4 ⟨rfl, g4⟩; have G4 := Lib.hid ((G1.out.trans (H3.out.trans G8.out)).trans g4); clear g4))
    go_ret
    exact ⟨rfl, G4.out⟩
end Go.Proofs.Ytjlmhfdigoogfaa
