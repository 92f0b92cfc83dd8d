/- Walks: the reference's More (39). -/
import Derived.Test.YtjlmhfdigoogfaaMoQ
namespace Go.Proofs.Ytjlmhfdigoogfaa
open Go.RowKit

attribute [local irreducible] Calls in
set_option maxRecDepth 100000 in
set_option maxHeartbeats 4000000 in
theorem rmore_any (s t : Sc) (w : World) (hs : s.ty.Rd w) (ht : t.ty.Rd w) : Calls Try.prog 39 #[s.v, t.v] w fun e w' => e = .returned (.bool (moreP s.vars s.ty.er t.vars t.ty.er)) ∧ Gr w w' := by
  obtain ⟨n, x⟩ := s
  obtain ⟨m, y⟩ := t
  simp only at hs ht ⊢
  rw [← rmore_eq]
  have VX := Lib.hid (fun V (g : Gr w V) => rvalid_any ⟨n, x⟩ V (TRd.gr hs g))
  have VY := Lib.hid (fun V (g : Gr w V) => rvalid_any ⟨m, y⟩ V (TRd.gr ht g))
  have BX := Lib.hid (BS.of n x.kind x.var (.slice x.A x.sub.length x.c) m y.kind y.var (.slice y.A y.sub.length y.c) w)
  have MP0 := Lib.hid (show rmoreP n x.er m y.er = (sval n x.er && sval m y.er && (mt n x.er (y.er.rep fun i => vr (opn m 1000000 i)) []).isSome) from rfl)
  obtain ⟨b0, b1, b2, b3⟩ := cell4 BX.out.h
  obtain ⟨c0, c1, c2, c3⟩ := cell4 BX.out.h'
  obtain ⟨p, hp⟩ : ∃ p, sval n x.er = p := ⟨_, rfl⟩
  obtain ⟨q, hq⟩ : ∃ q, sval m y.er = q := ⟨_, rfl⟩
  have OP0 := Lib.hid (fun (h : q = true) V (g : Gr w V) => ropen69 m y 1000000 V (TRd.gr ht g) (sval_ck (hq.trans h)) (sval_bd (hq.trans h)) (by omega))
  obtain ⟨r, hr⟩ : ∃ r, mt n x.er (y.er.rep fun i => vr (opn m 1000000 i)) [] = r := ⟨_, rfl⟩
  have MC0 := Lib.hid (fun (h1 : p = true) (h2 : q = true) (z : Ty) (V : World) (g : Gr w V) (hz : z.Rd V) (he : z.er = y.er.rep fun i => vr (opn m 1000000 i)) => show Calls Try.prog 71 #[iv n, .slice none 0 0, x.v, z.v] V (RMt V r (0 + x.er.size)) from by
    have h3 := ck_cke (sval_ck (hp.trans h1))
    have h4 := ck_cke (sval_ck (hq.trans h2))
    have h := rmatch_any x n z none 0 [] V (TRd.gr hs g) hz h3.1 (by rw [he]; exact wsh_ren _ h4.1) (sval_bd (hp.trans h1)) ⟨RD.nil, by simp⟩ (by have := h3.2; simp; omega)
    rw [List.map_nil, he, hr] at h
    exact h)
  simp only [hp, hq, hr] at VX VY MP0
  clear hs ht hp hq hr
  simp only [Sc.v] at *
  unfold Ty.v at *
  cases p with
  | false =>
    rw [MP0.out]
    go_enter Try.func39, Try.ntmps39
    go_wp2_with ((first | (go_at_call 68; refine (VX.out _ BX.out.gr).mono ?_; rintro e w1 ⟨rfl, g1⟩; have G1 := Lib.hid (BX.out.grow g1); clear g1 b0 b1 b2 b3 c0 c1 c2 c3; obtain ⟨b0, b1, b2, b3⟩ := cell4 G1.out.h; obtain ⟨c0, c1, c2, c3⟩ := cell4 G1.out.h')))
    go_ret
    exact ⟨rfl, G1.out.gr⟩
  | true =>
    cases q with
    | false =>
      rw [MP0.out]
      go_enter Try.func39, Try.ntmps39
      go_wp2_with ((first | (go_at_call 68; refine (VX.out _ BX.out.gr).mono ?_; rintro e w1 ⟨rfl, g1⟩; have G1 := Lib.hid (BX.out.grow g1); clear g1 b0 b1 b2 b3 c0 c1 c2 c3; obtain ⟨b0, b1, b2, b3⟩ := cell4 G1.out.h; obtain ⟨c0, c1, c2, c3⟩ := cell4 G1.out.h') | (go_at_call 68; refine (VY.out _ G1.out.gr).mono ?_; rintro e w2 ⟨rfl, g2⟩; have G2 := Lib.hid (G1.out.grow g2); clear g2 b0 b1 b2 b3 c0 c1 c2 c3)))
      go_ret
      exact ⟨rfl, G2.out.gr⟩
    | true =>
      have OP := Lib.hid (OP0.out rfl)
      have MC := Lib.hid (MC0.out rfl rfl)
      clear OP0 MC0
      rw [MP0.out]
      clear MP0
      generalize (y.er.rep fun i => vr (opn m 1000000 i)) = U at *
      cases r with
      | some fd =>
        go_enter Try.func39, Try.ntmps39
        go_upto_region 3 with ((first | (go_at_call 68; refine (VX.out _ BX.out.gr).mono ?_; rintro e w1 ⟨rfl, g1⟩; have G1 := Lib.hid (BX.out.grow g1); clear g1 b0 b1 b2 b3 c0 c1 c2 c3; obtain ⟨b0, b1, b2, b3⟩ := cell4 G1.out.h; obtain ⟨c0, c1, c2, c3⟩ := cell4 G1.out.h') | (go_at_call 68; refine (VY.out _ G1.out.gr).mono ?_; rintro e w2 ⟨rfl, g2⟩; have G2 := Lib.hid (G1.out.grow g2); clear g2 b0 b1 b2 b3 c0 c1 c2 c3)))
        have KS := Lib.hid (fun (V : World) (g : Gr w2 V) => And.intro (cell4 (G2.out.grow g).h) (cell4 (G2.out.grow g).h'))
        go_region_held3 (fun V => (V.cell? ⟨w.heap.size, 0, none⟩ = some (iv n) ∧ V.cell? ⟨w.heap.size, 1, none⟩ = some (iv x.kind) ∧ V.cell? ⟨w.heap.size, 2, none⟩ = some (iv x.var) ∧ V.cell? ⟨w.heap.size, 3, none⟩ = some (.slice x.A x.sub.length x.c)) ∧ V.cell? ⟨w.heap.size + 1, 0, none⟩ = some (iv m) ∧ V.cell? ⟨w.heap.size + 1, 1, none⟩ = some (iv y.kind) ∧ V.cell? ⟨w.heap.size + 1, 2, none⟩ = some (iv y.var) ∧ V.cell? ⟨w.heap.size + 1, 3, none⟩ = some (.slice y.A y.sub.length y.c)) (first | with_reducible exact KS.out _ Z2.out | with_reducible exact KS.out _ Z1.out | with_reducible exact KS.out _ (gr_drew _) | with_reducible exact KS.out _ (gr_refl _) | go_keep) (first | (go_at_call 69; (with_reducible refine (OP.out _ (G2.out.gr.trans (gr_drew _))).mono ?_); rintro e z1 ⟨q, rfl, tr, te, g⟩; have Z1 := Lib.hid ((gr_drew w2).trans g); have TR := Lib.hid (And.intro tr te); clear g tr te) | (go_at_call 71; (with_reducible refine (MC.out q _ (G2.out.gr.trans Z1.out) TR.out.1 TR.out.2).mono ?_); rintro e z2 ⟨g, A7, L7, c7, rfl, -⟩; have Z2 := Lib.hid (Z1.out.trans g); clear g))
        go_wp2
        go_ret
        exact ⟨rfl, G2.out.gr.trans Z2.out⟩
      | none =>
        go_enter Try.func39, Try.ntmps39
        go_upto_region 3 with ((first | (go_at_call 68; refine (VX.out _ BX.out.gr).mono ?_; rintro e w1 ⟨rfl, g1⟩; have G1 := Lib.hid (BX.out.grow g1); clear g1 b0 b1 b2 b3 c0 c1 c2 c3; obtain ⟨b0, b1, b2, b3⟩ := cell4 G1.out.h; obtain ⟨c0, c1, c2, c3⟩ := cell4 G1.out.h') | (go_at_call 68; refine (VY.out _ G1.out.gr).mono ?_; rintro e w2 ⟨rfl, g2⟩; have G2 := Lib.hid (G1.out.grow g2); clear g2 b0 b1 b2 b3 c0 c1 c2 c3)))
        have KS := Lib.hid (fun (V : World) (g : Gr w2 V) => And.intro (cell4 (G2.out.grow g).h) (cell4 (G2.out.grow g).h'))
        go_region_held3 (fun V => (V.cell? ⟨w.heap.size, 0, none⟩ = some (iv n) ∧ V.cell? ⟨w.heap.size, 1, none⟩ = some (iv x.kind) ∧ V.cell? ⟨w.heap.size, 2, none⟩ = some (iv x.var) ∧ V.cell? ⟨w.heap.size, 3, none⟩ = some (.slice x.A x.sub.length x.c)) ∧ V.cell? ⟨w.heap.size + 1, 0, none⟩ = some (iv m) ∧ V.cell? ⟨w.heap.size + 1, 1, none⟩ = some (iv y.kind) ∧ V.cell? ⟨w.heap.size + 1, 2, none⟩ = some (iv y.var) ∧ V.cell? ⟨w.heap.size + 1, 3, none⟩ = some (.slice y.A y.sub.length y.c)) (first | with_reducible exact KS.out _ Z2.out | with_reducible exact KS.out _ Z1.out | with_reducible exact KS.out _ (gr_drew _) | with_reducible exact KS.out _ (gr_refl _) | go_keep) (first | (go_at_call 69; (with_reducible refine (OP.out _ (G2.out.gr.trans (gr_drew _))).mono ?_); rintro e z1 ⟨q, rfl, tr, te, g⟩; have Z1 := Lib.hid ((gr_drew w2).trans g); have TR := Lib.hid (And.intro tr te); clear g tr te) | (go_at_call 71; (with_reducible refine (MC.out q _ (G2.out.gr.trans Z1.out) TR.out.1 TR.out.2).mono ?_); rintro e z2 ⟨g, v7, rfl⟩; have Z2 := Lib.hid (Z1.out.trans g); clear g))
        go_wp2
        go_ret
        exact ⟨rfl, G2.out.gr.trans Z2.out⟩
end Go.Proofs.Ytjlmhfdigoogfaa
