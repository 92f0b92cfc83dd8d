/- Law: LinkOrder. -/
import Derived.Test.YtgboboljgcfggaaDoorLawV
import Derived.Test.YtgboboljgcfggaaDoorOdP
import Derived.Test.YtgboboljgcfggaaDoorOdD
import Derived.Test.YtgboboljgcfggaaDoorSpg
namespace Go.Proofs.YtgboboljgcfggaaDoor
open Go.RowKit Go.Maps

/-- Link of at most four small codes, its values written out. -/
theorem link_vals (V : World) (Ad Ar : Option Addr) (cp cr n nr : Nat) (L : List Cod) (R : List Nam) (hn : L.length = n) (hnr : R.length = nr) (hL : CRd V Ad L) (h : L.length ≤ 4 ∧ ∀ c ∈ L, SmC c) (hR : RD 2 Nam.cs V Ar R) (hr : R.length ≤ 8) (hok : ∀ x ∈ R, x.Ok) (er : Int) (her : (linkV L R).1 = er) :
    Calls Tryd.prog 9 #[.slice Ad n cp, .slice Ar nr cr] V (fun e w' => ∃ (bA : Option Addr) (bc : Nat) (bs : List Blk) (sA : Option Addr) (sc : Nat) (ss : List Stt) (nb ns : Nat), e = .returned (.tuple #[.agg #[.slice bA nb bc, .slice sA ns sc], .int .i64 er]) ∧ bs.length = nb ∧ ss.length = ns ∧ Prg.Rd w' ⟨bA, bc, bs, sA, sc, ss⟩ ∧ bs.map Blk.pb = (linkV L R).2.1 ∧ ss = (linkV L R).2.2 ∧ Gr V w' ∧ ∀ b ∈ bs, b.ins.length ≤ 100000) := by
  subst hn
  subst hnr
  exact (link_small V Ad Ar cp cr L R hL h hR hr hok).mono fun e w' ⟨⟨bA, bc, bs, sA, sc, ss⟩, h1, h2, h3, h4, h5, h6⟩ => ⟨bA, bc, bs, sA, sc, ss, _, _, by rw [h1, her]; rfl, rfl, rfl, h2, h3, h4, h5, h6⟩
theorem linkV_len {L : List Cod} {R : List Nam} {X : Prg} (hB : X.bs.map Blk.pb = (linkV L R).2.1) (hS : X.ss = (linkV L R).2.2) (h : L.length ≤ 4 ∧ ∀ c ∈ L, SmC c) (hr : R.length ≤ 8) : X.bs.length ≤ 240 ∧ X.ss.length ≤ 8 := by
  by_cases h0 : (linkV L R).1 = 0
  · have v := vld_of h0 hB hS (sm_lim h).1
    have h1 := v.lb
    have h2 := v.ls
    have h3 := spots_sm h
    exact ⟨by omega, by omega⟩
  · obtain ⟨z1, z2⟩ := linkV_bad h0
    rw [z1] at hB
    rw [z2] at hS
    have h1 := congrArg List.length hB
    simp at h1
    rw [hS, h1]
    simp
/-- SameProgram of two programs that Link has made alike. -/
theorem same_prog (W : World) (L : List Cod) (R : List Nam) (hs : L.length ≤ 4 ∧ ∀ c ∈ L, SmC c) (hr : R.length ≤ 8) {bA sA bA2 sA2 : Option Addr} {bc sc bc2 sc2 nb ns nb2 ns2 : Nat} {bs bs2 : List Blk} {ss ss2 : List Stt} (n1 : bs.length = nb) (n2 : ss.length = ns) (n3 : bs2.length = nb2) (n4 : ss2.length = ns2)
    (X : Prg.Rd W ⟨bA, bc, bs, sA, sc, ss⟩) (Y : Prg.Rd W ⟨bA2, bc2, bs2, sA2, sc2, ss2⟩) (xb : bs.map Blk.pb = (linkV L R).2.1) (xs : ss = (linkV L R).2.2) (yb : bs2.map Blk.pb = (linkV L R).2.1) (ys : ss2 = (linkV L R).2.2) (xl : ∀ b ∈ bs, b.ins.length ≤ 100000) :
    Calls Tryd.prog 11 #[.agg #[.slice bA nb bc, .slice sA ns sc], .agg #[.slice bA2 nb2 bc2, .slice sA2 ns2 sc2]] W (fun e w' => e = .returned (.bool true) ∧ Gr W w') := by
  subst n1 n2 n3 n4
  obtain ⟨l1, l2⟩ := linkV_len (X := ⟨bA, bc, bs, sA, sc, ss⟩) xb xs hs hr
  exact sameP_any ⟨bA, bc, bs, sA, sc, ss⟩ ⟨bA2, bc2, bs2, sA2, sc2, ss2⟩ W X Y (by show bs2.map Blk.pb = bs.map Blk.pb; rw [xb, yb]) (by show ss2 = ss; rw [xs, ys]) (by simp only at l1 ⊢; omega) (by simp only at l2 ⊢; omega) (fun b hb => by have := xl b hb; omega)
theorem own_block {e : TypeId} {k B : Nat} {cs : Cod → List Value} {L : List Cod} {w : World} {v : Value} (o : OR e k cs w B v L) (h : L ≠ []) : ∃ g cap, v = .slice (some ⟨g, 0, none⟩) L.length cap ∧ L.length ≤ cap ∧ cap ≤ 9223372036854775807 := by
  rcases o.2 with ⟨-, hl⟩ | ⟨g, cap, cur, rfl, -, -, hc, hm, -⟩
  · exact absurd (List.eq_nil_of_length_eq_zero hl) h
  · exact ⟨g, cap, rfl, hc, by unfold maxLen at hm; omega⟩
attribute [local irreducible] Calls in
set_option maxRecDepth 100000 in
set_option maxHeartbeats 8000000 in
theorem order_walk (Ad Ar : Option Addr) (cp cr : Nat) (L : List Cod) (R : List Nam) (w : World) (hL : CRd w Ad L) (hl : L.length ≤ 9223372036854775807) (hR : RD 2 Nam.cs w Ar R) (hr : R.length ≤ 9223372036854775807) (hok : ∀ n ∈ R, n.Ok) :
    Calls Tryd.prog 5 #[.slice Ad L.length cp, .slice Ar R.length cr] w fun e w' => e = .returned (.bool true) ∧ Gr w w' := by
  obtain ⟨nc, hnc⟩ : ∃ n, L.length = n := ⟨_, rfl⟩
  obtain ⟨nr, hnr⟩ : ∃ n, R.length = n := ⟨_, rfl⟩
  have HL := Lib.hid (fun V (g : Gr w V) => hL.gr g)
  have HR := Lib.hid (fun V (g : Gr w V) => hR.gr g)
  have HOK := Lib.hid hok
  have HNR := Lib.hid hnr
  have HNC := Lib.hid hnc
  have GC := Lib.hid (great_any Ad cp L w hL hl)
  have AW := Lib.hid (fun V => awake_any V)
  rw [hnc] at hl GC ⊢
  rw [hnr] at hr ⊢
  clear hL hR hok hnc hnr
  go_enter Tryd.func5, Tryd.ntmps5
  by_cases h8 : nr ≤ 8
  · have e8 : decide (8 < nr) = false := decide_eq_false (by omega)
    go_upto_region 3 with (first
      | (go_at_call 7; refine GC.out.mono ?_; rintro e w1 ⟨g1, g, rfl, hg⟩; have G1 := Lib.hid g1; have HG := Lib.hid hg; clear g1 hg; cases g)
      | (go_at_call 8; refine (AW.out _).mono ?_; rintro e w2 ⟨rfl, g2⟩; have G2 := Lib.hid g2; clear g2))
    all_goals try (go_ret; exact ⟨rfl, G1.out.trans G2.out⟩)
    have SM := Lib.hid (show L.length ≤ 4 ∧ ∀ c ∈ L, SmC c from by have h := HG.out (by simp); rw [HNC.out]; exact h)
    have H8 := Lib.hid (show R.length ≤ 8 from by rw [HNR.out]; exact h8)
    obtain ⟨er, her⟩ : ∃ z, (linkV L R).1 = z := ⟨_, rfl⟩
    have HER := Lib.hid her
    have LP := Lib.hid (link_vals w1 Ad Ar cp cr nc nr L R HNC.out HNR.out (HL.out _ G1.out) SM.out (HR.out _ G1.out) H8.out HOK.out er her)
    clear HG her GC
    go_upto_region 4 with (go_at_call 9; refine (LP.out).mono ?_; rintro e w2 ⟨bA, bc, bs, sA, sc, ss, nb, ns, rfl, y1, y2, x1, x2, x3, g2, x4⟩; have NB := Lib.hid y1; have NS := Lib.hid y2; have XR := Lib.hid x1; have XB := Lib.hid x2; have XS := Lib.hid x3; have GL := Lib.hid g2; have XL := Lib.hid x4; clear x1 x2 x3 g2 x4 y1 y2)
    have GX := Lib.hid (G1.out.trans (GL.out.trans (gr_al w2 (.cells #[.slice bA nb bc, .slice sA ns sc] 29))))
    have X3 := Lib.hid (al_new w2 (.cells #[.slice bA nb bc, .slice sA ns sc] 29))
    obtain ⟨b1, hb1⟩ : ∃ m, w2.heap.size = m := ⟨_, rfl⟩
    rw [hb1] at X3 ⊢
    have XR := Lib.hid (fun V (g : Gr (w2.alloc (.cells #[.slice bA nb bc, .slice sA ns sc] 29)) V) => XR.out.below (below_of ((gr_al w2 (.cells #[.slice bA nb bc, .slice sA ns sc] 29)).trans g)))
    generalize w2.alloc (.cells #[.slice bA nb bc, .slice sA ns sc] 29) = W3 at *
    clear LP hb1 G1 GL
    have XC := Lib.hid (fun V (g : Gr W3 V) => ic2 (gr_h g X3.out))
    by_cases h0 : er = 0
    · subst h0
      have CL := Lib.hid (fun V (g : Gr w V) => show Calls Tryd.prog 17 #[.slice Ad nc cp] V (fun e w' => ∃ v', e = .returned v' ∧ OR 49 3 Cod.cs w' V.heap.size v' L ∧ Gr V w') from by
        have h := cloneC_any Ad cp L V (HL.out V g).rd (by have := SM.out.1; omega)
        rw [HNC.out] at h
        exact h)
      have REV := Lib.hid (linkV_rev HER.out)
      go_upto_region 7 with (go_at_call 17; refine (CL.out _ GX.out).mono ?_; rintro e w4 ⟨v4, rfl, o4, g4⟩; have O4 := Lib.hid o4; have G4 := Lib.hid g4; clear o4 g4)
      have RV := Lib.hid (reverse_own W3.heap.size v4 L w4 O4.out (by have := SM.out.1; omega))
      go_upto_region 8 with (go_at_call 18; refine RV.out.mono ?_; rintro e w5 ⟨rfl, o5, g5⟩; have O5 := Lib.hid o5; have G5 := Lib.hid g5; clear o5 g5)
      have GY := Lib.hid (O4.out.grow G4.out (Nat.le_refl _) G5.out)
      obtain ⟨A5, c5, rfl, r5⟩ : ∃ A5 c5, v4 = .slice A5 nc c5 ∧ Hid (RD 3 Cod.cs w5 A5 L.reverse) := by
        obtain ⟨A5, c5, e5, r5⟩ := O5.out.form (n := 3) (cs := Cod.cs) (fun _ => rfl)
        exact ⟨A5, c5, by rw [e5, List.length_reverse, HNC.out], r5⟩
      have LP2 := Lib.hid (link_vals w5 A5 Ar c5 cr nc nr L.reverse R (by rw [List.length_reverse]; exact HNC.out) HNR.out ⟨r5.out, fun c hc => ((HL.out _ (GX.out.trans GY.out)).c c (List.mem_reverse.1 hc))⟩ ⟨by rw [List.length_reverse]; exact SM.out.1, fun c hc => SM.out.2 c (List.mem_reverse.1 hc)⟩ (HR.out _ (GX.out.trans GY.out)) H8.out HOK.out 0 (by rw [REV.out]; exact HER.out))
      clear O4 O5 G4 G5 RV
      go_upto_region 9 with (go_at_call 9; refine (LP2.out).mono ?_; rintro e w6 ⟨bA2, bc2, bs2, sA2, sc2, ss2, nb2, ns2, rfl, y1, y2, x1, x2, x3, g2, x4⟩; have NB2 := Lib.hid y1; have NS2 := Lib.hid y2; have XR2 := Lib.hid x1; have XB2 := Lib.hid x2; have XS2 := Lib.hid x3; have GL2 := Lib.hid g2; have XL2 := Lib.hid x4; clear x1 x2 x3 g2 x4 y1 y2)
      have GZ := Lib.hid (GY.out.trans (GL2.out.trans (gr_al w6 (.cells #[.slice bA2 nb2 bc2, .slice sA2 ns2 sc2] 29))))
      have Y3 := Lib.hid (al_new w6 (.cells #[.slice bA2 nb2 bc2, .slice sA2 ns2 sc2] 29))
      obtain ⟨b2, hb2⟩ : ∃ m, w6.heap.size = m := ⟨_, rfl⟩
      rw [hb2] at Y3 ⊢
      have XR2 := Lib.hid (XR2.out.below (below_of (gr_al w6 (.cells #[.slice bA2 nb2 bc2, .slice sA2 ns2 sc2] 29))))
      generalize w6.alloc (.cells #[.slice bA2 nb2 bc2, .slice sA2 ns2 sc2] 29) = W7 at *
      clear LP2 hb2 GL2 GY r5
      obtain ⟨p0, p1⟩ := XC.out _ GZ.out
      obtain ⟨q0, q1⟩ := ic2 Y3.out
      have SA := Lib.hid (same_prog W7 L R SM.out H8.out NB.out NS.out NB2.out NS2.out (XR.out _ GZ.out) XR2.out XB.out XS.out (by rw [XB2.out, REV.out]) (by rw [XS2.out, REV.out]) XL.out)
      go_upto_region 11 with (go_at_call 11; refine SA.out.mono ?_; rintro e w8 ⟨rfl, g8⟩; have G8 := Lib.hid g8; clear g8)
      have GU := Lib.hid (GZ.out.trans G8.out)
      clear p0 p1 q0 q1 SA Y3 XR2 GZ G8
      go_upto_region 12 with (fail)
      go_loopw [50] (fun u V => ∃ j : Nat, j ≤ nc ∧ u = .int .i64 j ∧ Hid (Gr W3 V)) (fun u _ => nc - (intOf u).toNat)
      case atStart => exact ⟨0, Nat.zero_le _, rfl, Lib.hid GU.out⟩
      case round =>
        obtain ⟨j, hj, rfl, HG⟩ := hrel
        by_cases hlt : j < nc
        · have CL := Lib.hid (CL.out wr (GX.out.trans HG.out))
          obtain ⟨er3, her3⟩ : ∃ z, (linkV (L.eraseIdx j) R).1 = z := ⟨_, rfl⟩
          have HER3 := Lib.hid her3
          clear her3
          go_upto_region 14 with (fail)
          go_upto_region 15 with (first
            | (go_at_call 17; refine CL.out.mono ?_; rintro e w4 ⟨v4, rfl, o4, g4⟩
               obtain ⟨gb, cap, rfl, hc1, hc2⟩ := own_block o4 (by intro e; have := HNC.out; rw [e] at this; simp at this; omega)
               rw [HNC.out] at o4 hc1 ⊢
               have DL := Lib.hid (fun z hz => delete_own wr.heap.size gb cap nc j z L w4 o4 HNC.out hlt hz hc1 hc2)
               have G4 := Lib.hid g4
               have GB := Lib.hid (o4.lt gb rfl).1
               clear o4 g4)
            | (go_at_call 19; refine (DL.out _ (by omega)).mono ?_; rintro e w5 ⟨rfl, o5, g5⟩
               have GY := Lib.hid (gr_own G4.out GB.out g5)
               have O5 := Lib.hid o5
               clear o5 g5
               have LP2 := Lib.hid (link_vals w5 (some ⟨gb, 0, none⟩) Ar cap cr (nc - 1) nr (L.eraseIdx j) R (by rw [List.length_eraseIdx, HNC.out, if_pos hlt]) HNR.out ⟨by
                 obtain ⟨A5, c5, e5, r5⟩ := O5.out.form (n := 3) (cs := Cod.cs) (fun _ => rfl)
                 rw [← (Value.slice.inj e5).1] at r5
                 exact r5, fun c hc => ((HL.out _ (GX.out.trans (HG.out.trans GY.out))).c c (List.mem_of_mem_eraseIdx hc))⟩ ⟨by have h1 := SM.out.1; rw [List.length_eraseIdx]; split <;> omega, fun c hc => SM.out.2 c (List.mem_of_mem_eraseIdx hc)⟩ (HR.out _ (GX.out.trans (HG.out.trans GY.out))) H8.out HOK.out er3 HER3.out))
            | (go_at_call 9; refine (LP2.out).mono ?_; rintro e w6 ⟨bA2, bc2, bs2, sA2, sc2, ss2, nb2, ns2, rfl, y1, y2, x1, x2, x3, g2, x4⟩; have NB2 := Lib.hid y1; have NS2 := Lib.hid y2; have XR2 := Lib.hid x1; have XB2 := Lib.hid x2; have XS2 := Lib.hid x3; have GL2 := Lib.hid g2; have XL2 := Lib.hid x4; clear x1 x2 x3 g2 x4 y1 y2))
          have GZ := Lib.hid (GY.out.trans (GL2.out.trans (gr_al w6 (.cells #[.slice bA2 nb2 bc2, .slice sA2 ns2 sc2] 29))))
          have Y3 := Lib.hid (al_new w6 (.cells #[.slice bA2 nb2 bc2, .slice sA2 ns2 sc2] 29))
          obtain ⟨b2, hb2⟩ : ∃ m, w6.heap.size = m := ⟨_, rfl⟩
          rw [hb2] at Y3 ⊢
          have XR2 := Lib.hid (XR2.out.below (below_of (gr_al w6 (.cells #[.slice bA2 nb2 bc2, .slice sA2 ns2 sc2] 29))))
          generalize w6.alloc (.cells #[.slice bA2 nb2 bc2, .slice sA2 ns2 sc2] 29) = W7 at *
          clear LP2 hb2 GL2 GY O5 DL G4 CL
          have HZ := Lib.hid (HG.out.trans GZ.out)
          obtain ⟨p0, p1⟩ := XC.out _ HZ.out
          obtain ⟨q0, q1⟩ := ic2 Y3.out
          by_cases h3 : er3 = 0
          · subst h3
            have DEL := Lib.hid (linkV_del j HER.out HER3.out)
            have SA := Lib.hid (same_prog W7 L R SM.out H8.out NB.out NS.out NB2.out NS2.out (XR.out _ HZ.out) XR2.out XB.out XS.out (by rw [XB2.out, DEL.out]) (by rw [XS2.out, DEL.out]) XL.out)
            go_wp2_with (go_at_call 11; refine SA.out.mono ?_; rintro e w8 ⟨rfl, g8⟩; have G8 := Lib.hid g8; clear g8)
            exact ⟨⟨j + 1, by omega, by simp, Lib.hid (HZ.out.trans G8.out)⟩, by simp [intOf]; omega⟩
          · have e3 : (er3 == 0) = false := by simpa using h3
            go_wp2_with (fail)
            exact ⟨⟨j + 1, by omega, by simp, Lib.hid HZ.out⟩, by simp [intOf]; omega⟩
        · obtain rfl : nc = j := by omega
          go_wp2_with (go_at_call 8; refine (AW.out _).mono ?_; rintro e w9 ⟨rfl, g9⟩; have G9 := Lib.hid g9; clear g9)
          go_ret
          exact ⟨rfl, GX.out.trans (HG.out.trans G9.out)⟩
    · have e0 : (er != 0) = true := by simpa using h0
      go_wp2_with (go_at_call 8; refine (AW.out _).mono ?_; rintro e w5 ⟨rfl, g5⟩; have G5 := Lib.hid g5; clear g5)
      go_ret
      exact ⟨rfl, GX.out.trans G5.out⟩
  · have e8 : decide (8 < nr) = true := decide_eq_true (by omega)
    go_wp2_with (first
      | (go_at_call 7; refine GC.out.mono ?_; rintro e w1 ⟨g1, g, rfl, hg⟩; have G1 := Lib.hid g1; clear g1 hg; cases g)
      | (go_at_call 8; refine (AW.out _).mono ?_; rintro e w2 ⟨rfl, g2⟩; have G2 := Lib.hid g2; clear g2))
    all_goals (go_ret; exact ⟨rfl, G1.out.trans G2.out⟩)
theorem law_order_any (Ad Ar : Option Addr) (cp cr : Nat) (L : List Cod) (R : List Nam) (w : World) (hL : CRd w Ad L) (hl : L.length ≤ 9223372036854775807) (hR : RD 2 Nam.cs w Ar R) (hr : R.length ≤ 9223372036854775807) (hok : ∀ n ∈ R, n.Ok) :
    Calls Tryd.prog 5 #[.slice Ad L.length cp, .slice Ar R.length cr] w fun e w' => e = .returned (.bool true) ∧ w.grownBy w' none := order_walk Ad Ar cp cr L R w hL hl hR hr hok
end Go.Proofs.YtgboboljgcfggaaDoor
