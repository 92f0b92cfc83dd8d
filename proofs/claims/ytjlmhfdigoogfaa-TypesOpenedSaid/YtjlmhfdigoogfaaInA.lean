/- Walks: SameScheme (31), Instance (32). -/
import Derived.Test.YtjlmhfdigoogfaaOpB
namespace Go.Proofs.Ytjlmhfdigoogfaa
open Go.RowKit Go.ChangeMaps

set_option maxRecDepth 100000 in
set_option maxHeartbeats 800000 in
theorem samesc_any (s t : Sc) (w : World) (hs : s.ty.Rd w) (ht : t.ty.Rd w) : Calls Try.prog 31 #[s.v, t.v] w fun e w' => e = .returned (.bool ((s.vars == t.vars) && s.ty.er.seq t.ty.er)) ∧ Gr w w' := by
  obtain ⟨n, x⟩ := s
  obtain ⟨m, y⟩ := t
  simp only at hs ht ⊢
  have SM := Lib.hid (fun V (g : Gr w V) => same_any x y V (TRd.gr hs g) (TRd.gr ht g))
  have BX := Lib.hid (BS.of n x.kind x.var (.slice x.A x.sub.length x.c) m y.kind y.var (.slice y.A y.sub.length y.c) w)
  obtain ⟨b0, b1, b2, b3⟩ := cell4 BX.out.h
  obtain ⟨c0, c1, c2, c3⟩ := cell4 BX.out.h'
  clear hs ht
  obtain ⟨r, hr⟩ : ∃ r, x.er.seq y.er = r := ⟨_, rfl⟩
  simp only [hr] at SM ⊢
  clear hr
  simp only [Sc.v]
  unfold Ty.v at SM
  by_cases h : n = m
  · subst h
    simp only [BEq.rfl, Bool.true_and]
    go_enter Try.func31, Try.ntmps31
    go_wp2_with (first | (go_at_call 25; (with_reducible refine (SM.out _ BX.out.gr).mono ?_); rintro e w1 ⟨rfl, g1⟩; have G1 := Lib.hid (BX.out.grow g1); clear g1))
    go_ret
    exact ⟨rfl, G1.out.gr⟩
  · have hb : (n == m) = false := by simpa using h
    simp only [hb, Bool.false_and]
    go_enter Try.func31, Try.ntmps31
    go_wp2
    go_ret
    exact ⟨rfl, BX.out.gr⟩
/-- A scheme and a type in boxes behind a world. -/
structure IBx (n k v : Int) (s : Value) (k' v' : Int) (s' : Value) (w V : World) : Prop where
  gr : Gr w V
  h : V.heap[w.heap.size]? = some (.cells #[iv n, iv k, iv v, s] 47 (0, 0))
  h' : V.heap[w.heap.size + 1]? = some (.cells #[iv k', iv v', s'] 24 (0, 0))
theorem IBx.of (n k v : Int) (s : Value) (k' v' : Int) (s' : Value) (w : World) : IBx n k v s k' v' s' w ((w.alloc (.cells #[iv n, iv k, iv v, s] 47)).alloc (.cells #[iv k', iv v', s'] 24)) :=
  ⟨(gr_al _ _).trans (gr_al _ _), (Below.heap_alloc _ _ _ (by simp)).trans (al_new _ _), al_at _ _ (by simp)⟩
theorem IBx.grow {n k v : Int} {s : Value} {k' v' : Int} {s' : Value} {w V V' : World} (h : IBx n k v s k' v' s' w V) (g : Gr V V') : IBx n k v s k' v' s' w V' := ⟨h.gr.trans g, gr_h g h.h, gr_h g h.h'⟩
/-- A type is an instance of a scheme. -/
def instP (n : Int) (t u : PT) : Bool := sval n t && (ck u == 0) && (mt n t u []).isSome
attribute [local irreducible] Calls
set_option maxRecDepth 100000 in
set_option maxHeartbeats 800000 in
theorem instance_any (s : Sc) (y : Ty) (w : World) (hs : s.ty.Rd w) (ht : y.Rd w) : Calls Try.prog 32 #[s.v, y.v] w fun e w' => e = .returned (.bool (instP s.vars s.ty.er y.er)) ∧ Gr w w' := by
  obtain ⟨n, x⟩ := s
  simp only at hs ht ⊢
  have VX := Lib.hid (fun V (g : Gr w V) => valid_any ⟨n, x⟩ V (TRd.gr hs g))
  have VY := Lib.hid (fun V (g : Gr w V) => check_any y V (TRd.gr ht g))
  have HX := Lib.hid (fun V (g : Gr w V) => TRd.gr hs g)
  have HY := Lib.hid (fun V (g : Gr w V) => TRd.gr ht g)
  have BX := Lib.hid (IBx.of n x.kind x.var (.slice x.A x.sub.length x.c) y.kind y.var (.slice y.A y.sub.length y.c) w)
  have MP0 := Lib.hid (show instP n x.er y.er = (sval n x.er && (ck y.er == 0) && (mt n x.er y.er []).isSome) from rfl)
  obtain ⟨b0, b1, b2, b3⟩ := cell4 BX.out.h
  obtain ⟨⟨c0, c1, c2⟩, -⟩ := cell3 BX.out.h'
  obtain ⟨p, hp⟩ : ∃ p, sval n x.er = p := ⟨_, rfl⟩
  obtain ⟨q, hq⟩ : ∃ q, ck y.er = q := ⟨_, rfl⟩
  simp only [hp, hq] at VX VY MP0
  clear hp hq
  simp only [Sc.v] at *
  obtain ⟨r, hr⟩ : ∃ r, mt n x.er y.er [] = r := ⟨_, rfl⟩
  rw [hr] at MP0
  have MC := Lib.hid (fun (V : World) (g : Gr w V) (b : Nat) (hb : MP V b []) => show Calls Try.prog 70 #[iv n, x.v, y.v, .map (some b)] V (MR b V r) from by
    have h := match_any x n y b [] V (HX.out V g) (HY.out V g) ⟨[], hb, by simp, rfl⟩
    rw [hr] at h
    exact h)
  unfold Ty.v at *
  clear hr hs ht
  cases p with
  | false =>
    rw [MP0.out]
    go_enter Try.func32, Try.ntmps32
    go_wp2_with (first | (go_at_call 66; refine (VX.out _ BX.out.gr).mono ?_; rintro e w1 ⟨rfl, g1⟩; have G1 := Lib.hid (BX.out.grow g1); clear g1))
    go_ret
    exact ⟨rfl, G1.out.gr⟩
  | true =>
    by_cases hq : q = 0
    · subst hq
      have hmm := @run_makeMap Try.prog
      rw [MP0.out]
      simp only [BEq.rfl, Bool.true_and]
      cases r with
      | some fd =>
        go_enter Try.func32, Try.ntmps32
        go_wp2_with (first | (go_at_call 66; refine (VX.out _ BX.out.gr).mono ?_; rintro e w1 ⟨rfl, g1⟩; have G1 := Lib.hid (BX.out.grow g1); clear g1; obtain ⟨⟨c0, c1, c2⟩, -⟩ := cell3 G1.out.h') | (go_at_call 17; refine (VY.out _ G1.out.gr).mono ?_; rintro e w2 ⟨rfl, g2⟩; have G2 := Lib.hid (G1.out.grow g2); clear g2; clear c0 c1 c2; obtain ⟨⟨c0, c1, c2⟩, -⟩ := cell3 G2.out.h'; clear b0 b1 b2 b3; obtain ⟨b0, b1, b2, b3⟩ := cell4 G2.out.h) | (go_at_call 70; refine (MC.out _ (G2.out.gr.trans (gr_al _ _)) _ (MP.made _)).mono ?_; rintro e w7 ⟨g7, rfl, -⟩; have G7 := Lib.hid (gr_own (G2.out.gr.trans (gr_al _ _)) (G2.out.gr.size) g7); clear g7))
        go_ret
        exact ⟨rfl, G7.out⟩
      | none =>
        go_enter Try.func32, Try.ntmps32
        go_wp2_with (first | (go_at_call 66; refine (VX.out _ BX.out.gr).mono ?_; rintro e w1 ⟨rfl, g1⟩; have G1 := Lib.hid (BX.out.grow g1); clear g1; obtain ⟨⟨c0, c1, c2⟩, -⟩ := cell3 G1.out.h') | (go_at_call 17; refine (VY.out _ G1.out.gr).mono ?_; rintro e w2 ⟨rfl, g2⟩; have G2 := Lib.hid (G1.out.grow g2); clear g2; clear c0 c1 c2; obtain ⟨⟨c0, c1, c2⟩, -⟩ := cell3 G2.out.h'; clear b0 b1 b2 b3; obtain ⟨b0, b1, b2, b3⟩ := cell4 G2.out.h) | (go_at_call 70; refine (MC.out _ (G2.out.gr.trans (gr_al _ _)) _ (MP.made _)).mono ?_; rintro e w7 ⟨g7, rfl⟩; have G7 := Lib.hid (gr_own (G2.out.gr.trans (gr_al _ _)) (G2.out.gr.size) g7); clear g7))
        go_ret
        exact ⟨rfl, G7.out⟩
    · have hb : (q == 0) = false := by simpa using hq
      rw [MP0.out]
      simp only [hb, Bool.and_false, Bool.false_and]
      go_enter Try.func32, Try.ntmps32
      go_wp2_with (first | (go_at_call 66; refine (VX.out _ BX.out.gr).mono ?_; rintro e w1 ⟨rfl, g1⟩; have G1 := Lib.hid (BX.out.grow g1); clear g1; obtain ⟨⟨c0, c1, c2⟩, -⟩ := cell3 G1.out.h') | (go_at_call 17; refine (VY.out _ G1.out.gr).mono ?_; rintro e w2 ⟨rfl, g2⟩; have G2 := Lib.hid (G1.out.grow g2); clear g2))
      go_ret
      exact ⟨rfl, G2.out.gr⟩
end Go.Proofs.Ytjlmhfdigoogfaa
