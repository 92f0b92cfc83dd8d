/- Law: LinkValid. -/
import Derived.Test.YtgboboljgcfggaaDoorM7
namespace Go.Proofs.YtgboboljgcfggaaDoor
open Go.RowKit Go.Maps

theorem spots_le {m : Nat} : ∀ (l : List PC), (∀ c ∈ l, c.blocks.length ≤ m) → (spots l).length ≤ l.length * m := by
  have key : ∀ (l : List PC) (i : Nat), (∀ c ∈ l, c.blocks.length ≤ m) → ((l.zipIdx i).flatMap fun (c, i) => (List.range c.blocks.length).map fun j : Nat => (⟨i, (j : Int)⟩ : Sp)).length ≤ l.length * m := by
    intro l
    induction l with
    | nil => intro i _; simp
    | cons c l ih =>
      intro i h
      have h1 := ih (i + 1) (fun c hc => h c (by simp [hc]))
      have h2 := h c (by simp)
      rw [List.zipIdx_cons, List.flatMap_cons, List.length_append, List.length_cons, Nat.succ_mul]
      simp only [List.length_map, List.length_range] at h1 ⊢
      omega
  exact fun l h => key l 0 h
theorem spots_sm {L : List Cod} (h : L.length ≤ 4 ∧ ∀ c ∈ L, SmC c) : (spots (pls L)).length ≤ 240 := by
  have h1 := spots_le (m := 60) (pls L) (fun c hc => by
    unfold pls at hc
    obtain ⟨d, hd, rfl⟩ := List.mem_map.1 hc
    have := (h.2 d hd).b
    unfold Cod.pl
    simpa using this)
  have h2 : (pls L).length = L.length := by unfold pls; simp
  rw [h2] at h1
  have := h.1
  have h3 : L.length * 60 ≤ 4 * 60 := Nat.mul_le_mul_right _ this
  omega
theorem sm_lim {L : List Cod} (h : L.length ≤ 4 ∧ ∀ c ∈ L, SmC c) : (∀ x ∈ L, x.Lim) ∧ ∀ c ∈ L, ∀ b ∈ c.bs, b.ins.length ≤ 100000 :=
  ⟨fun c hc => (h.2 c hc).lim, fun c hc b hb => by have := ((h.2 c hc).i b hb).1; omega⟩
theorem link_small (w : World) (Ad Ar : Option Addr) (cp cr : Nat) (L : List Cod) (R : List Nam) (hL : CRd w Ad L) (h : L.length ≤ 4 ∧ ∀ c ∈ L, SmC c) (hR : RD 2 Nam.cs w Ar R) (hr : R.length ≤ 8) (hok : ∀ n ∈ R, n.Ok) : Calls Tryd.prog 9 #[.slice Ad L.length cp, .slice Ar R.length cr] w (LkP L R w) :=
  link_any w Ad Ar cp cr _ _ L R hL rfl (by have := h.1; omega) (sm_lim h).1 (sm_lim h).2 (by have := spots_sm h; omega) hR rfl (by omega) hok
theorem Vld.len {L : List Cod} {R : List Nam} {X : Prg} (v : Vld L R X) (h : L.length ≤ 4 ∧ ∀ c ∈ L, SmC c) (hr : R.length ≤ 8) (hok : ∀ n ∈ R, n.Ok) (hi : ∀ b ∈ X.bs, b.ins.length ≤ 100000) : X.Len ∧ X.bs.length ≤ 240 ∧ X.ss.length ≤ 8 := by
  have h1 := v.lb
  have h2 := v.ls
  have h3 := spots_sm h
  refine ⟨⟨by omega, by omega, fun b hb => by have := hi b hb; omega, v.ln, fun s hs => ?_⟩, by omega, by omega⟩
  have := (hok _ (v.m s hs)).1
  have e : maxLen = 9223372036854775807 := rfl
  simp only [e] at this
  exact this
attribute [local irreducible] Calls in
set_option maxRecDepth 100000 in
set_option maxHeartbeats 8000000 in
theorem valid_walk (Ad Ar : Option Addr) (cp cr : Nat) (L : List Cod) (R : List Nam) (w : World) (hL : CRd w Ad L) (hl : L.length ≤ 9223372036854775807) (hR : RD 2 Nam.cs w Ar R) (hr : R.length ≤ 9223372036854775807) (hok : ∀ n ∈ R, n.Ok) :
    Calls Tryd.prog 4 #[.slice Ad L.length cp, .slice Ar R.length cr] w fun e w' => e = .returned (.bool true) ∧ Gr w w' := by
  obtain ⟨nc, hnc⟩ : ∃ n, L.length = n := ⟨_, rfl⟩
  obtain ⟨nr, hnr⟩ : ∃ n, R.length = n := ⟨_, rfl⟩
  have HL := Lib.hid (fun V (g : Gr w V) => hL.gr g)
  have HR := Lib.hid (fun V (g : Gr w V) => hR.gr g)
  have HOK := Lib.hid hok
  have HNR := Lib.hid hnr
  have HNC := Lib.hid hnc
  have GC := Lib.hid (great_any Ad cp L w hL hl)
  have AW := Lib.hid (fun V => awake_any V)
  have LK := Lib.hid (fun V (g : Gr w V) (h : L.length ≤ 4 ∧ ∀ c ∈ L, SmC c) (h8 : R.length ≤ 8) => link_small V Ad Ar cp cr L R (hL.gr g) h (hR.gr g) h8 hok)
  rw [hnc] at hl GC LK ⊢
  rw [hnr] at hr LK ⊢
  clear hL hR hok hnc hnr
  go_enter Tryd.func4, Tryd.ntmps4
  by_cases h8 : nr ≤ 8
  · have e8 : decide (8 < nr) = false := decide_eq_false (by omega)
    go_upto_region 3 with (first
      | (go_at_call 7; refine GC.out.mono ?_; rintro e w1 ⟨g1, g, rfl, hg⟩; have G1 := Lib.hid g1; have HG := Lib.hid hg; clear g1 hg; cases g)
      | (go_at_call 8; refine (AW.out _).mono ?_; rintro e w2 ⟨rfl, g2⟩; have G2 := Lib.hid g2; clear g2))
    all_goals try (go_ret; exact ⟨rfl, G1.out.trans G2.out⟩)
    have SM := Lib.hid (HG.out (by simp))
    obtain ⟨er, her⟩ : ∃ z, (linkV L R).1 = z := ⟨_, rfl⟩
    have HER := Lib.hid her
    have LP := Lib.hid (show Calls Tryd.prog 9 #[.slice Ad nc cp, .slice Ar nr cr] w1 (fun e w' => ∃ (bA : Option Addr) (bc : Nat) (bs : List Blk) (sA : Option Addr) (sc : Nat) (ss : List Stt) (nb ns : Nat), e = .returned (.tuple #[.agg #[.slice bA nb bc, .slice sA ns sc], .int .i64 er]) ∧ bs.length = nb ∧ ss.length = ns ∧ Prg.Rd w' ⟨bA, bc, bs, sA, sc, ss⟩ ∧ bs.map Blk.pb = (linkV L R).2.1 ∧ ss = (linkV L R).2.2 ∧ Gr w1 w' ∧ ∀ b ∈ bs, b.ins.length ≤ 100000) from
      (LK.out _ G1.out SM.out h8).mono fun e w' ⟨⟨bA, bc, bs, sA, sc, ss⟩, h1, h2, h3, h4, h5, h6⟩ => ⟨bA, bc, bs, sA, sc, ss, _, _, by rw [h1, her]; rfl, rfl, rfl, h2, h3, h4, h5, h6⟩)
    clear LK HG her
    go_upto_region 4 with (go_at_call 9; refine LP.out.mono ?_; rintro e w2 ⟨bA, bc, bs, sA, sc, ss, nb, ns, rfl, y1, y2, x1, x2, x3, g2, x4⟩; have NB := Lib.hid y1; have NS := Lib.hid y2; have XR := Lib.hid x1; have XB := Lib.hid x2; have XS := Lib.hid x3; have G2 := Lib.hid g2; have XL := Lib.hid x4; clear x1 x2 x3 g2 x4 y1 y2)
    have GX := Lib.hid (G1.out.trans (G2.out.trans (gr_al w2 (.cells #[.slice bA nb bc, .slice sA ns sc] 29))))
    have X3 := Lib.hid (al_new w2 (.cells #[.slice bA nb bc, .slice sA ns sc] 29))
    obtain ⟨b1, hb1⟩ : ∃ m, w2.heap.size = m := ⟨_, rfl⟩
    rw [hb1] at X3 ⊢
    have XR := Lib.hid (fun V (g : Gr (w2.alloc (.cells #[.slice bA nb bc, .slice sA ns sc] 29)) V) => XR.out.below (below_of ((gr_al w2 (.cells #[.slice bA nb bc, .slice sA ns sc] 29)).trans g)))
    generalize w2.alloc (.cells #[.slice bA nb bc, .slice sA ns sc] 29) = W3 at *
    clear LP G1 G2 hb1 GC
    have HX := Lib.hid (fun V (g : Gr W3 V) => (show V.cell? ⟨b1, 0, none⟩ = some (.slice bA nb bc) ∧ V.cell? ⟨b1, 1, none⟩ = some (.slice sA ns sc) from by
      have h := gr_h g X3.out
      exact ⟨by rw [Lib.cell_of_heap h]; rfl, by rw [Lib.cell_of_heap h]; rfl⟩))
    obtain ⟨p0, p1⟩ := HX.out _ (gr_refl _)
    by_cases h0 : er = 0
    · subst h0
      have VL := Lib.hid (vld_of (X := ⟨bA, bc, bs, sA, sc, ss⟩) HER.out XB.out XS.out (sm_lim (by rw [← HNC.out] at SM; exact SM.out)).1)
      obtain ⟨q1, q2, q3⟩ := VL.out.len (by rw [← HNC.out] at SM; exact SM.out) (by rw [HNR.out]; exact h8) HOK.out XL.out
      have q2 : nb ≤ 240 := by rw [← NB.out]; exact q2
      have q3 : ns ≤ 8 := by rw [← NS.out]; exact q3
      have QL := Lib.hid q1
      clear q1
      have ND := Lib.hid (fun V (g : Gr W3 V) => show Calls Tryd.prog 12 #[.agg #[.slice bA nb bc, .slice sA ns sc]] V (fun e w' => ∃ Ak ck r, e = .returned (.slice Ak nb ck) ∧ r.length = nb ∧ (∀ j : Nat, j < nb → (j : Int) ∈ r) ∧ RD 1 Ic w' Ak r ∧ Gr V w') from by
        have h := needed_any ⟨bA, bc, bs, sA, sc, ss⟩ V (XR.out V g) VL.out.r VL.out.u (by show bs.length ≤ _; rw [NB.out]; omega) (by show ss.length ≤ _; rw [NS.out]; omega) XL.out
        unfold Prg.v at h
        simp only [NB.out, NS.out] at h
        refine h.mono ?_
        rintro e w' ⟨v, r, rfl, hn, ho, hg⟩
        obtain ⟨Ak, ck, rfl, hrd⟩ := int_form ho
        obtain ⟨m1, m2⟩ := VL.out.n r (by simp only [NB.out]; exact hn)
        simp only [NB.out] at m1 m2
        exact ⟨Ak, ck, r, by rw [m1], m1, m2, hrd, hg⟩)
      have ST := Lib.hid (fun (n : Nam) (hn : n ∈ R) V (g : Gr W3 V) => show Calls Tryd.prog 14 #[.agg #[.slice bA nb bc, .slice sA ns sc], .agg #[.string ⟨n.pack.toArray⟩, .int .i64 n.id]] V (fun e w' => ∃ z : Int, e = .returned (.tuple #[.int .i64 z, .int .i64 0]) ∧ Gr V w') from by
        have h := start_any ⟨bA, bc, bs, sA, sc, ss⟩ n V (XR.out V g) QL.out
        rw [VL.out.s n hn] at h
        unfold Prg.v at h
        simp only [NB.out, NS.out] at h
        exact h.mono fun e w' ⟨h1, h2⟩ => ⟨_, h1, h2⟩)
      have CK := Lib.hid (fun V (g : Gr W3 V) => show Calls Tryd.prog 16 #[.agg #[.slice bA nb bc, .slice sA ns sc]] V (fun e w' => e = .returned (.int .i64 0) ∧ Gr V w') from by
        have h := check_any ⟨bA, bc, bs, sA, sc, ss⟩ V (XR.out V g) QL.out.b QL.out.s QL.out.i QL.out.n QL.out.k
        rw [VL.out.e] at h
        unfold Prg.v at h
        simp only [NB.out, NS.out] at h
        exact h.mono fun e w' ⟨h1, h2⟩ => ⟨h1, gr_of h2⟩)
      go_upto_region 7 with (go_at_call 12; refine (ND.out _ (gr_refl _)).mono ?_; rintro e w4 ⟨Ak, ck, r, rfl, r1, r2, r3, g4⟩; have R1 := Lib.hid r1; have R2 := Lib.hid r2; have R3 := Lib.hid (fun V (g : Gr w4 V) => r3.gr g); have G4 := Lib.hid g4; clear r1 r2 r3 g4)
      have GY := Lib.hid (GX.out.trans G4.out)
      have e8i : decide ((8 : Int) < (nr : Int)) = false := decide_eq_false (by omega)
      simp only [e8i]
      clear e8 e8i p0 p1
      obtain ⟨p0, p1⟩ := HX.out _ G4.out
      go_upto_region 8 with (fail)
      go_loopw [47] (fun u V => ∃ j : Nat, j ≤ nb ∧ u = .int .i64 j ∧ Hid (Gr w4 V)) (fun u _ => nb - (intOf u).toNat)
      case atStart => exact ⟨0, Nat.zero_le _, rfl, Lib.hid (gr_refl _)⟩
      case round =>
        clear p0 p1
        obtain ⟨j, hj, rfl, HG⟩ := hrel
        by_cases hlt : j < nb
        · have CT := Lib.hid (show Calls Tryd.prog 13 #[.slice Ak nb ck, .int .i64 j] wr (fun e w' => e = .returned (.bool true) ∧ Gr wr w') from by
            have h := containsI_any Ak ck r j wr (R3.out _ HG.out) (by rw [R1.out]; omega)
            rw [R1.out, decide_eq_true (R2.out j hlt)] at h
            exact h)
          go_wp2_with (go_at_call 13; refine CT.out.mono ?_; rintro e w5 ⟨rfl, g5⟩; have G5 := Lib.hid g5; clear g5)
          exact ⟨⟨j + 1, by omega, by simp, Lib.hid (HG.out.trans G5.out)⟩, by simp [intOf]; omega⟩
        · obtain rfl : nb = j := by omega
          go_upto_region 14 with (fail)
          go_loopw [57] (fun u V => ∃ j : Nat, j ≤ nr ∧ u = .int .i64 j ∧ Hid (Gr w4 V)) (fun u _ => nr - (intOf u).toNat)
          case atStart => exact ⟨0, Nat.zero_le _, rfl, Lib.hid HG.out⟩
          case round =>
            clear HG
            obtain ⟨j, hj, rfl, HG⟩ := hrel
            by_cases hlt : j < nr
            · obtain ⟨n, hn⟩ : ∃ n, R[j]? = some n := ⟨_, List.getElem?_eq_getElem (by rw [HNR.out]; exact hlt)⟩
              obtain ⟨a, a1, eA, ha, y0, y1⟩ := (HR.out _ (GY.out.trans HG.out)).nam' hn
              subst eA
              have SC := Lib.hid (ST.out n (List.mem_of_getElem? hn))
              obtain ⟨p0, p1⟩ := HX.out _ (G4.out.trans HG.out)
              clear hn
              go_upto_region 16 with (fail)
              have GA := Lib.hid (gr_al wr (.cells #[.string ⟨n.pack.toArray⟩, .int .i64 n.id] 39))
              have p0 := gr_c GA.out p0
              have p1 := gr_c GA.out p1
              have x0 : (wr.alloc (.cells #[.string ⟨n.pack.toArray⟩, .int .i64 n.id] 39)).cell? ⟨wr.heap.size, 0, none⟩ = some (.string ⟨n.pack.toArray⟩) := by rw [Lib.cell_of_heap (al_new _ _)]; rfl
              have x1 : (wr.alloc (.cells #[.string ⟨n.pack.toArray⟩, .int .i64 n.id] 39)).cell? ⟨wr.heap.size, 1, none⟩ = some (.int .i64 n.id) := by rw [Lib.cell_of_heap (al_new _ _)]; rfl
              go_wp2_with (go_at_call 14; refine (SC.out _ (G4.out.trans (HG.out.trans GA.out))).mono ?_; rintro e w5 ⟨z, rfl, g5⟩; have G5 := Lib.hid g5; clear g5)
              exact ⟨⟨j + 1, by omega, by simp, Lib.hid (HG.out.trans (GA.out.trans G5.out))⟩, by simp [intOf]; omega⟩
            · obtain rfl : nr = j := by omega
              obtain ⟨p0, p1⟩ := HX.out _ (G4.out.trans HG.out)
              go_upto_region 21 with (fail)
              go_loopw [73] (fun u V => ∃ j : Nat, j ≤ ns ∧ u = .int .i64 j ∧ Hid (Gr w4 V)) (fun u _ => ns - (intOf u).toNat)
              case atStart => exact ⟨0, Nat.zero_le _, rfl, Lib.hid HG.out⟩
              case round =>
                clear HG p0 p1
                obtain ⟨j, hj, rfl, HG⟩ := hrel
                by_cases hlt : j < ns
                · have HXR := XR.out _ (G4.out.trans HG.out)
                  obtain ⟨a, a1, eA, ha, hab, y0, y1, y2⟩ := HXR.s.stt (k := j) (by show j < ss.length; rw [NS.out]; exact hlt)
                  have eA : sA = some a := eA
                  subst eA
                  obtain ⟨s, hs⟩ : ∃ s, ss[j]? = some s := ⟨_, List.getElem?_eq_getElem (by rw [NS.out]; exact hlt)⟩
                  have hsi : ss[j]'(by rw [NS.out]; exact hlt) = s := by rw [List.getElem?_eq_getElem (by rw [NS.out]; exact hlt)] at hs; exact Option.some.inj hs
                  simp only [hsi] at y0 y1 y2
                  have CT := Lib.hid (fun V (g : Gr wr V) => show Calls Tryd.prog 15 #[.slice Ar nr cr, .agg #[.string ⟨s.pack.toArray⟩, .int .i64 s.id]] V (fun e w' => e = .returned (.bool true) ∧ Gr V w') from by
                    have h := containsN_any Ar cr R ⟨s.pack, s.id⟩ V (HR.out _ (GY.out.trans (HG.out.trans g))) (by rw [HNR.out]; omega)
                    rw [HNR.out, decide_eq_true (VL.out.m s (List.mem_of_getElem? hs))] at h
                    exact h)
                  clear hsi hs HXR
                  have GA := Lib.hid (gr_al wr (.cells #[.string ⟨s.pack.toArray⟩, .int .i64 s.id, .int .i64 s.block] 43))
                  have x0 : (wr.alloc (.cells #[.string ⟨s.pack.toArray⟩, .int .i64 s.id, .int .i64 s.block] 43)).cell? ⟨wr.heap.size, 0, none⟩ = some (.string ⟨s.pack.toArray⟩) := by rw [Lib.cell_of_heap (al_new _ _)]; rfl
                  have x1 : (wr.alloc (.cells #[.string ⟨s.pack.toArray⟩, .int .i64 s.id, .int .i64 s.block] 43)).cell? ⟨wr.heap.size, 1, none⟩ = some (.int .i64 s.id) := by rw [Lib.cell_of_heap (al_new _ _)]; rfl
                  go_wp2_with (go_at_call 15; refine (CT.out _ GA.out).mono ?_; rintro e w5 ⟨rfl, g5⟩; have G5 := Lib.hid g5; clear g5)
                  exact ⟨⟨j + 1, by omega, by simp, Lib.hid (HG.out.trans (GA.out.trans G5.out))⟩, by simp [intOf]; omega⟩
                · obtain rfl : ns = j := by omega
                  obtain ⟨p0, p1⟩ := HX.out _ (G4.out.trans HG.out)
                  go_wp2_with (first
                    | (go_at_call 16; refine (CK.out _ (G4.out.trans HG.out)).mono ?_; rintro e w5 ⟨rfl, g5⟩; have G5 := Lib.hid g5; have p0 := gr_c g5 p0; clear g5)
                    | (go_at_call 8; refine (AW.out _).mono ?_; rintro e w6 ⟨rfl, g6⟩; have G6 := Lib.hid g6; clear g6))
                  go_ret
                  exact ⟨rfl, GY.out.trans (HG.out.trans (G5.out.trans G6.out))⟩
    · have e0 : (er != 0) = true := by simpa using h0
      obtain ⟨z1, z2⟩ := linkV_bad (L := L) (R := R) (by rw [HER.out]; exact h0)
      have n0 : nb = 0 := by have h := congrArg List.length XB.out; rw [z1] at h; simp at h; rw [← NB.out]; simpa using h
      have n1 : ns = 0 := by rw [← NS.out, XS.out, z2]; rfl
      subst n0
      subst n1
      go_wp2_with (go_at_call 8; refine (AW.out _).mono ?_; rintro e w5 ⟨rfl, g5⟩; have G5 := Lib.hid g5; clear g5)
      go_ret
      exact ⟨rfl, GX.out.trans G5.out⟩
  · have e8 : decide (8 < nr) = true := decide_eq_true (by omega)
    go_wp2_with (first
      | (go_at_call 7; refine GC.out.mono ?_; rintro e w1 ⟨g1, g, rfl, hg⟩; have G1 := Lib.hid g1; clear g1 hg; cases g)
      | (go_at_call 8; refine (AW.out _).mono ?_; rintro e w2 ⟨rfl, g2⟩; have G2 := Lib.hid g2; clear g2))
    all_goals (go_ret; exact ⟨rfl, G1.out.trans G2.out⟩)
theorem law_valid_any (Ad Ar : Option Addr) (cp cr : Nat) (L : List Cod) (R : List Nam) (w : World) (hL : CRd w Ad L) (hl : L.length ≤ 9223372036854775807) (hR : RD 2 Nam.cs w Ar R) (hr : R.length ≤ 9223372036854775807) (hok : ∀ n ∈ R, n.Ok) :
    Calls Tryd.prog 4 #[.slice Ad L.length cp, .slice Ar R.length cr] w fun e w' => e = .returned (.bool true) ∧ w.grownBy w' none := valid_walk Ad Ar cp cr L R w hL hl hR hr hok
end Go.Proofs.YtgboboljgcfggaaDoor
