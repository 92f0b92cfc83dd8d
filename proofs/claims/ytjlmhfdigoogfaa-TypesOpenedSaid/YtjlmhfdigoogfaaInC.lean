/- Walks: the reference's Instance (33). -/
import Derived.Test.YtjlmhfdigoogfaaInB
namespace Go.Proofs.Ytjlmhfdigoogfaa
open Go.RowKit

attribute [local irreducible] Calls
set_option maxRecDepth 100000 in
set_option maxHeartbeats 800000 in
theorem rinstance_any (s : Sc) (y : Ty) (w : World) (hs : s.ty.Rd w) (ht : y.Rd w) : Calls Try.prog 33 #[s.v, y.v] w fun e w' => e = .returned (.bool (instP s.vars s.ty.er y.er)) ∧ Gr w w' := by
  obtain ⟨n, x⟩ := s
  simp only at hs ht ⊢
  have VX := Lib.hid (fun V (g : Gr w V) => rvalid_any ⟨n, x⟩ V (TRd.gr hs g))
  have VY := Lib.hid (fun V (g : Gr w V) => rCheck_any y V (TRd.gr ht g))
  have BX := Lib.hid (IBx.of n x.kind x.var (.slice x.A x.sub.length x.c) y.kind y.var (.slice y.A y.sub.length y.c) w)
  have MP0 := Lib.hid (show instP n x.er y.er = (sval n x.er && (ck y.er == 0) && (mt n x.er y.er []).isSome) from rfl)
  obtain ⟨b0, b1, b2, b3⟩ := cell4 BX.out.h
  obtain ⟨⟨c0, c1, c2⟩, -⟩ := cell3 BX.out.h'
  obtain ⟨p, hp⟩ : ∃ p, sval n x.er = p := ⟨_, rfl⟩
  obtain ⟨q, hq⟩ : ∃ q, ck y.er = q := ⟨_, rfl⟩
  obtain ⟨r, hr⟩ : ∃ r, mt n x.er y.er [] = r := ⟨_, rfl⟩
  have MC := Lib.hid (fun (h1 : p = true) (h2 : q = 0) (V : World) (g : Gr w V) => show Calls Try.prog 71 #[iv n, .slice none 0 0, x.v, y.v] V (RMt V r (0 + x.er.size)) from by
    rw [h1] at hp
    rw [h2] at hq
    have h3 := ck_cke (sval_ck hp)
    have h := rmatch_any x n y none 0 [] V (TRd.gr hs g) (TRd.gr ht g) h3.1 (wsh_of (ck_cke hq).1) (sval_bd hp) ⟨RD.nil, by simp⟩ (by have := h3.2; simp; omega)
    rw [List.map_nil, hr] at h
    exact h)
  rw [hr] at MP0
  simp only [hp, hq] at VX VY MP0
  clear hp hq
  simp only [Sc.v] at *
  unfold Ty.v at *
  clear hr hs ht
  cases p with
  | false =>
    rw [MP0.out]
    go_enter Try.func33, Try.ntmps33
    go_wp2_with (first | (go_at_call 68; refine (VX.out _ BX.out.gr).mono ?_; rintro e w1 ⟨rfl, g1⟩; have G1 := Lib.hid (BX.out.grow g1); clear g1))
    go_ret
    exact ⟨rfl, G1.out.gr⟩
  | true =>
    by_cases hq : q = 0
    · subst hq
      have MC2 := Lib.hid (MC.out rfl rfl)
      clear MC
      rw [MP0.out]
      simp only [BEq.rfl, Bool.true_and]
      cases r with
      | some fd =>
        go_enter Try.func33, Try.ntmps33
        go_wp2_with (first | (go_at_call 68; refine (VX.out _ BX.out.gr).mono ?_; rintro e w1 ⟨rfl, g1⟩; have G1 := Lib.hid (BX.out.grow g1); clear g1; obtain ⟨⟨c0, c1, c2⟩, -⟩ := cell3 G1.out.h') | (go_at_call 18; refine (VY.out _ G1.out.gr).mono ?_; rintro e w2 ⟨rfl, g2⟩; have G2 := Lib.hid (G1.out.grow g2); clear g2; clear c0 c1 c2; obtain ⟨⟨c0, c1, c2⟩, -⟩ := cell3 G2.out.h'; clear b0 b1 b2 b3; obtain ⟨b0, b1, b2, b3⟩ := cell4 G2.out.h) | (go_at_call 71; refine (MC2.out _ G2.out.gr).mono ?_; rintro e w7 ⟨g7, A7, L7, c7, rfl, -⟩; have G7 := Lib.hid (G2.out.gr.trans g7); clear g7))
        go_ret
        exact ⟨rfl, G7.out⟩
      | none =>
        go_enter Try.func33, Try.ntmps33
        go_wp2_with (first | (go_at_call 68; refine (VX.out _ BX.out.gr).mono ?_; rintro e w1 ⟨rfl, g1⟩; have G1 := Lib.hid (BX.out.grow g1); clear g1; obtain ⟨⟨c0, c1, c2⟩, -⟩ := cell3 G1.out.h') | (go_at_call 18; refine (VY.out _ G1.out.gr).mono ?_; rintro e w2 ⟨rfl, g2⟩; have G2 := Lib.hid (G1.out.grow g2); clear g2; clear c0 c1 c2; obtain ⟨⟨c0, c1, c2⟩, -⟩ := cell3 G2.out.h'; clear b0 b1 b2 b3; obtain ⟨b0, b1, b2, b3⟩ := cell4 G2.out.h) | (go_at_call 71; refine (MC2.out _ G2.out.gr).mono ?_; rintro e w7 ⟨g7, v7, rfl⟩; have G7 := Lib.hid (G2.out.gr.trans g7); clear g7))
        go_ret
        exact ⟨rfl, G7.out⟩
    · have hb : (q == 0) = false := by simpa using hq
      have hb2 : (q != 0) = true := by simpa using hq
      rw [MP0.out]
      simp only [hb, Bool.and_false, Bool.false_and]
      go_enter Try.func33, Try.ntmps33
      go_wp2_with (first | (go_at_call 68; refine (VX.out _ BX.out.gr).mono ?_; rintro e w1 ⟨rfl, g1⟩; have G1 := Lib.hid (BX.out.grow g1); clear g1; obtain ⟨⟨c0, c1, c2⟩, -⟩ := cell3 G1.out.h') | (go_at_call 18; refine (VY.out _ G1.out.gr).mono ?_; rintro e w2 ⟨rfl, g2⟩; have G2 := Lib.hid (G1.out.grow g2); clear g2))
      go_ret
      exact ⟨rfl, G2.out.gr⟩
end Go.Proofs.Ytjlmhfdigoogfaa
