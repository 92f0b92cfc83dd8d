/- Law: LinkLink. -/
import Derived.Test.YtgboboljgcfggaaDoorLawV
import Derived.Test.YtgboboljgcfggaaDoorRlk
import Derived.Test.YtgboboljgcfggaaDoorSpg
namespace Go.Proofs.YtgboboljgcfggaaDoor
open Go.RowKit Go.Maps

theorem rlink_small (w : World) (Ad Ar : Option Addr) (cp cr : Nat) (L : List Cod) (R : List Nam) (hL : CRd w Ad L) (h : L.length ≤ 4 ∧ ∀ c ∈ L, SmC c) (hR : RD 2 Nam.cs w Ar R) (hr : R.length ≤ 8) (hok : ∀ n ∈ R, n.Ok) : Calls Tryd.prog 10 #[.slice Ad L.length cp, .slice Ar R.length cr] w (RlP L R w) :=
  rlink_any w Ad Ar cp cr _ _ L R hL rfl (by have := h.1; omega) (sm_lim h).1 (fun c hc b hb => by have := ((h.2 c hc).i b hb).1; omega) (by have := spots_sm h; omega) hR rfl (by omega) hok
theorem linkV_len {L : List Cod} {R : List Nam} {X : Prg} (hB : X.bs.map Blk.pb = (linkV L R).2.1) (hS : X.ss = (linkV L R).2.2) (h : L.length ≤ 4 ∧ ∀ c ∈ L, SmC c) (hr : R.length ≤ 8) : X.bs.length ≤ 240 ∧ X.ss.length ≤ 8 := by
  by_cases h0 : (linkV L R).1 = 0
  · have v := vld_of h0 hB hS (sm_lim h).1
    have h1 := v.lb
    have h2 := v.ls
    have h3 := spots_sm h
    exact ⟨by omega, by omega⟩
  · obtain ⟨z1, z2⟩ := linkV_bad h0
    rw [z1] at hB
    rw [z2] at hS
    have h1 := congrArg List.length hB
    simp at h1
    rw [hS, h1]
    simp
attribute [local irreducible] Calls in
set_option maxRecDepth 100000 in
set_option maxHeartbeats 8000000 in
theorem link_walk (Ad Ar : Option Addr) (cp cr : Nat) (L : List Cod) (R : List Nam) (w : World) (hL : CRd w Ad L) (hl : L.length ≤ 9223372036854775807) (hR : RD 2 Nam.cs w Ar R) (hr : R.length ≤ 9223372036854775807) (hok : ∀ n ∈ R, n.Ok) :
    Calls Tryd.prog 3 #[.slice Ad L.length cp, .slice Ar R.length cr] w fun e w' => e = .returned (.bool true) ∧ Gr w w' := by
  obtain ⟨nc, hnc⟩ : ∃ n, L.length = n := ⟨_, rfl⟩
  obtain ⟨nr, hnr⟩ : ∃ n, R.length = n := ⟨_, rfl⟩
  have HNR := Lib.hid hnr
  have HNC := Lib.hid hnc
  have GC := Lib.hid (great_any Ad cp L w hL hl)
  have AW := Lib.hid (fun V => awake_any V)
  have LK := Lib.hid (fun V (g : Gr w V) (h : L.length ≤ 4 ∧ ∀ c ∈ L, SmC c) (h8 : R.length ≤ 8) => link_small V Ad Ar cp cr L R (hL.gr g) h (hR.gr g) h8 hok)
  have RK := Lib.hid (fun V (g : Gr w V) (h : L.length ≤ 4 ∧ ∀ c ∈ L, SmC c) (h8 : R.length ≤ 8) => rlink_small V Ad Ar cp cr L R (hL.gr g) h (hR.gr g) h8 hok)
  rw [hnc] at hl GC LK RK ⊢
  rw [hnr] at hr LK RK ⊢
  clear hL hR hok hnc hnr
  go_enter Tryd.func3, Tryd.ntmps3
  by_cases h8 : nr ≤ 8
  · have e8 : decide (8 < nr) = false := decide_eq_false (by omega)
    go_upto_region 3 with (first
      | (go_at_call 7; refine GC.out.mono ?_; rintro e w1 ⟨g1, g, rfl, hg⟩; have G1 := Lib.hid g1; have HG := Lib.hid hg; clear g1 hg; cases g)
      | (go_at_call 8; refine (AW.out _).mono ?_; rintro e w2 ⟨rfl, g2⟩; have G2 := Lib.hid g2; clear g2))
    all_goals try (go_ret; exact ⟨rfl, G1.out.trans G2.out⟩)
    have SM := Lib.hid (HG.out (by simp))
    obtain ⟨er, her⟩ : ∃ z, (linkV L R).1 = z := ⟨_, rfl⟩
    have SM2 := Lib.hid (show L.length ≤ 4 ∧ ∀ c ∈ L, SmC c from by rw [HNC.out]; exact SM.out)
    have LP := Lib.hid (show Calls Tryd.prog 9 #[.slice Ad nc cp, .slice Ar nr cr] w1 (fun e w' => ∃ (bA : Option Addr) (bc : Nat) (bs : List Blk) (sA : Option Addr) (sc : Nat) (ss : List Stt) (nb ns : Nat), e = .returned (.tuple #[.agg #[.slice bA nb bc, .slice sA ns sc], .int .i64 er]) ∧ bs.length = nb ∧ ss.length = ns ∧ Prg.Rd w' ⟨bA, bc, bs, sA, sc, ss⟩ ∧ bs.map Blk.pb = (linkV L R).2.1 ∧ ss = (linkV L R).2.2 ∧ Gr w1 w' ∧ ∀ b ∈ bs, b.ins.length ≤ 100000) from
      (LK.out _ G1.out SM.out h8).mono fun e w' ⟨⟨bA, bc, bs, sA, sc, ss⟩, h1, h2, h3, h4, h5, h6⟩ => ⟨bA, bc, bs, sA, sc, ss, _, _, by rw [h1, her]; rfl, rfl, rfl, h2, h3, h4, h5, h6⟩)
    have RP := Lib.hid (fun V (g : Gr w1 V) => show Calls Tryd.prog 10 #[.slice Ad nc cp, .slice Ar nr cr] V (fun e w' => ∃ (bA : Option Addr) (bc : Nat) (bs : List Blk) (sA : Option Addr) (sc : Nat) (ss : List Stt), e = .returned (.tuple #[.agg #[.slice bA (linkV L R).2.1.length bc, .slice sA (linkV L R).2.2.length sc], .int .i64 er]) ∧ Prg.Rd w' ⟨bA, bc, bs, sA, sc, ss⟩ ∧ bs.map Blk.pb = (linkV L R).2.1 ∧ ss = (linkV L R).2.2 ∧ Gr V w') from
      (RK.out _ (G1.out.trans g) SM.out h8).mono fun e w' ⟨⟨bA, bc, bs, sA, sc, ss⟩, h1, h2, h3, h4, h5⟩ => ⟨bA, bc, bs, sA, sc, ss, by
        have q1 := congrArg List.length h3
        simp only [List.length_map] at q1
        have q2 := congrArg List.length h4
        simp only at q2
        rw [h1, her, ← q1, ← q2]; rfl, h2, h3, h4, h5⟩)
    clear LK RK HG her
    go_upto_region 4 with (go_at_call 9; refine LP.out.mono ?_; rintro e w2 ⟨bA, bc, bs, sA, sc, ss, nb, ns, rfl, y1, y2, x1, x2, x3, g2, x4⟩; have NB := Lib.hid y1; have NS := Lib.hid y2; have XR := Lib.hid x1; have XB := Lib.hid x2; have XS := Lib.hid x3; have G2 := Lib.hid g2; have XL := Lib.hid x4; clear x1 x2 x3 g2 x4 y1 y2)
    have RP := Lib.hid (fun V (g : Gr w1 V) => show Calls Tryd.prog 10 #[.slice Ad nc cp, .slice Ar nr cr] V (fun e w' => ∃ (bA : Option Addr) (bc : Nat) (bs : List Blk) (sA : Option Addr) (sc : Nat) (ss : List Stt), e = .returned (.tuple #[.agg #[.slice bA nb bc, .slice sA ns sc], .int .i64 er]) ∧ Prg.Rd w' ⟨bA, bc, bs, sA, sc, ss⟩ ∧ bs.map Blk.pb = (linkV L R).2.1 ∧ ss = (linkV L R).2.2 ∧ Gr V w') from by
      have h := RP.out V g
      have q1 : (linkV L R).2.1.length = nb := by rw [← XB.out, List.length_map]; exact NB.out
      have q2 : (linkV L R).2.2.length = ns := by rw [← XS.out]; exact NS.out
      rw [q1, q2] at h
      exact h)
    have LN := Lib.hid (linkV_len (X := ⟨bA, bc, bs, sA, sc, ss⟩) XB.out XS.out SM2.out (by rw [HNR.out]; exact h8))
    have GX := Lib.hid (G2.out.trans (gr_al w2 (.cells #[.slice bA nb bc, .slice sA ns sc] 29)))
    have X3 := Lib.hid (al_new w2 (.cells #[.slice bA nb bc, .slice sA ns sc] 29))
    obtain ⟨b1, hb1⟩ : ∃ m, w2.heap.size = m := ⟨_, rfl⟩
    rw [hb1] at X3 ⊢
    have XR := Lib.hid (fun V (g : Gr (w2.alloc (.cells #[.slice bA nb bc, .slice sA ns sc] 29)) V) => XR.out.below (below_of ((gr_al w2 (.cells #[.slice bA nb bc, .slice sA ns sc] 29)).trans g)))
    generalize w2.alloc (.cells #[.slice bA nb bc, .slice sA ns sc] 29) = W3 at *
    clear LP hb1 GC
    go_upto_region 5 with (go_at_call 10; refine (RP.out _ GX.out).mono ?_; rintro e w4 ⟨bA2, bc2, bs2, sA2, sc2, ss2, rfl, x1, x2, x3, g2⟩; have YR := Lib.hid x1; have YB := Lib.hid x2; have YS := Lib.hid x3; have G4 := Lib.hid g2; clear x1 x2 x3 g2)
    have GY := Lib.hid (G4.out.trans (gr_al w4 (.cells #[.slice bA2 nb bc2, .slice sA2 ns sc2] 29)))
    have Y3 := Lib.hid (al_new w4 (.cells #[.slice bA2 nb bc2, .slice sA2 ns sc2] 29))
    obtain ⟨b2, hb2⟩ : ∃ m, w4.heap.size = m := ⟨_, rfl⟩
    rw [hb2] at Y3
    try rw [hb2]
    have YR := Lib.hid (YR.out.below (below_of (gr_al w4 (.cells #[.slice bA2 nb bc2, .slice sA2 ns sc2] 29))))
    generalize w4.alloc (.cells #[.slice bA2 nb bc2, .slice sA2 ns sc2] 29) = W5 at *
    clear hb2 RP
    obtain ⟨p0, p1⟩ := ic2 (gr_h GY.out X3.out)
    obtain ⟨q0, q1⟩ := ic2 Y3.out
    have SA := Lib.hid (show Calls Tryd.prog 11 #[.agg #[.slice bA nb bc, .slice sA ns sc], .agg #[.slice bA2 nb bc2, .slice sA2 ns sc2]] W5 (fun e w' => e = .returned (.bool true) ∧ Gr W5 w') from by
      have h := sameP_any ⟨bA, bc, bs, sA, sc, ss⟩ ⟨bA2, bc2, bs2, sA2, sc2, ss2⟩ W5 (XR.out _ GY.out) YR.out (by show bs2.map Blk.pb = bs.map Blk.pb; rw [XB.out, YB.out]) (by show ss2 = ss; rw [XS.out, YS.out]) (by have := LN.out.1; simp only at this ⊢; omega) (by have := LN.out.2; simp only at this ⊢; omega) (fun b hb => by have := XL.out b hb; omega)
      unfold Prg.v at h
      have n1 : bs2.length = nb := by have h1 := congrArg List.length (YB.out.trans XB.out.symm); simp only [List.length_map] at h1; rw [h1]; exact NB.out
      have n2 : ss2.length = ns := by rw [YS.out, ← XS.out]; exact NS.out
      simp only [NB.out, NS.out, n1, n2] at h
      exact h)
    go_wp2_with (first
      | (go_at_call 11; refine SA.out.mono ?_; rintro e w6 ⟨rfl, g6⟩; have G6 := Lib.hid g6; clear g6)
      | (go_at_call 8; refine (AW.out _).mono ?_; rintro e w7 ⟨rfl, g7⟩; have G7 := Lib.hid g7; clear g7))
    go_ret
    exact ⟨rfl, G1.out.trans (GX.out.trans (GY.out.trans (G6.out.trans G7.out)))⟩
  · have e8 : decide (8 < nr) = true := decide_eq_true (by omega)
    go_wp2_with (first
      | (go_at_call 7; refine GC.out.mono ?_; rintro e w1 ⟨g1, g, rfl, hg⟩; have G1 := Lib.hid g1; clear g1 hg; cases g)
      | (go_at_call 8; refine (AW.out _).mono ?_; rintro e w2 ⟨rfl, g2⟩; have G2 := Lib.hid g2; clear g2))
    all_goals (go_ret; exact ⟨rfl, G1.out.trans G2.out⟩)
theorem law_link_any (Ad Ar : Option Addr) (cp cr : Nat) (L : List Cod) (R : List Nam) (w : World) (hL : CRd w Ad L) (hl : L.length ≤ 9223372036854775807) (hR : RD 2 Nam.cs w Ar R) (hr : R.length ≤ 9223372036854775807) (hok : ∀ n ∈ R, n.Ok) :
    Calls Tryd.prog 3 #[.slice Ad L.length cp, .slice Ar R.length cr] w fun e w' => e = .returned (.bool true) ∧ w.grownBy w' none := link_walk Ad Ar cp cr L R w hL hl hR hr hok
end Go.Proofs.YtgboboljgcfggaaDoor
