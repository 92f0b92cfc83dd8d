/- Law: LinkEncoding. -/
import Derived.Test.YtgboboljgcfggaaDoorLnP
import Derived.Test.YtgboboljgcfggaaDoorM7
import Derived.Test.YtgboboljgcfggaaDoorSpg
namespace Go.Proofs.YtgboboljgcfggaaDoor
open Go.RowKit

attribute [local irreducible] Calls in
set_option maxRecDepth 100000 in
set_option maxHeartbeats 8000000 in
theorem encoding_walk (p : Prg) (s : T) (w : World) (hp : p.Rd w) (hl : p.Len) (hc : ∀ b ∈ p.bs, b.ins.length ≤ 10000000000000) (hs : s.length ≤ 9223372036854775807) :
    Calls Tryd.prog 6 #[p.v, .string ⟨s.toArray⟩] w fun e w' => e = .returned (.bool true) ∧ Gr w w' := by
  have GC := Lib.hid (fun V (g : Gr w V) => greatP_any p V (hp.below (below_of g)) hl.b hl.s hl.i)
  have AW := Lib.hid (fun V => awake_any V)
  have HPV := Lib.hid (fun V (g : Gr w V) => hp.below (below_of g))
  have HLV := Lib.hid hl
  have HCV := Lib.hid hc
  have SZ : (⟨s.toArray⟩ : ByteArray).size = s.length := rfl
  obtain ⟨bA, bc, bs, sA, sc, ss⟩ := p
  obtain ⟨nb, hnb⟩ : ∃ n, bs.length = n := ⟨_, rfl⟩
  obtain ⟨ns, hns⟩ : ∃ n, ss.length = n := ⟨_, rfl⟩
  have NB := Lib.hid hnb
  have NS := Lib.hid hns
  unfold Prg.v at GC ⊢
  simp only [hnb, hns] at GC ⊢
  clear hp hl hc hnb hns
  obtain ⟨dv2, hdv⟩ : ∃ z, (decV s).2 = z := ⟨_, rfl⟩
  have HDV := Lib.hid hdv
  have TWO := Lib.hid (decV_two s)
  clear hdv
  have GX := Lib.hid (gr_al w (.cells #[.slice bA nb bc, .slice sA ns sc] 29))
  have X3 := Lib.hid (al_new w (.cells #[.slice bA nb bc, .slice sA ns sc] 29))
  obtain ⟨k1, hk1⟩ : ∃ m, w.heap.size = m := ⟨_, rfl⟩
  go_enter Tryd.func6, Tryd.ntmps6
  go_upto_region 1 with (fail)
  rw [hk1] at X3
  clear hk1
  generalize w.alloc (.cells #[.slice bA nb bc, .slice sA ns sc] 29) = W0 at *
  have XC := Lib.hid (fun V (g : Gr W0 V) => dcel2 (gr_h g X3.out))
  obtain ⟨p0, p1, -, -⟩ := XC.out _ (gr_refl _)
  by_cases h3 : s.length ≤ 300
  · have e8 : decide ((300 : Int) < (s.length : Int)) = false := decide_eq_false (by omega)
    have DE := Lib.hid (fun V (g : Gr W0 V) => show Calls Tryd.prog 22 #[.string ⟨s.toArray⟩] V (fun e w' => ∃ (bA : Option Addr) (bc : Nat) (bs : List Blk) (sA : Option Addr) (sc : Nat) (ss : List Stt) (nb ns : Nat), e = .returned (.tuple #[.agg #[.slice bA nb bc, .slice sA ns sc], .int .i64 dv2]) ∧ bs.length = nb ∧ ss.length = ns ∧ DcX s V ⟨bA, bc, bs, sA, sc, ss⟩ w') from by
      refine (decode_any s V (by omega)).mono ?_
      rintro e w' ⟨⟨xA, xc, xs, zA, zc, zs⟩, h1, h2⟩
      exact ⟨xA, xc, xs, zA, zc, zs, _, _, by rw [h1, HDV.out]; rfl, rfl, rfl, h2⟩)
    go_upto_region 3 with (first
      | (go_at_call 20; refine (GC.out _ GX.out).mono ?_; rintro e w1 ⟨⟨g, rfl, hg⟩, b1⟩; have G1 := Lib.hid (gr_of b1); have HG := Lib.hid hg; clear b1 hg; cases g)
      | (go_at_call 8; refine (AW.out _).mono ?_; rintro e w2 ⟨rfl, g2⟩; have G2 := Lib.hid g2; clear g2))
    all_goals try (go_ret; exact ⟨rfl, GX.out.trans (G1.out.trans G2.out)⟩)
    have SM := Lib.hid (HG.out.1 (by simp))
    have CN := Lib.hid (small_cnt SM.out (by have h1 := cnt_le HCV.out; have h2 := SM.out.b; simp only at h1 h2 ⊢; have h3 := Nat.mul_le_mul_right 10000000000000 h2; omega))
    have HI := Lib.hid (show ∀ b ∈ bs, b.ins.length ≤ 1000000 from fun b hb => by have := ins_le hb; have h := CN.out; simp only at h; omega)
    have HS := Lib.hid (show ss.length ≤ 1000000 from by have h := SM.out.s; simp only at h; omega)
    obtain ⟨et, er, hen⟩ : ∃ a b, encV ⟨bA, bc, bs, sA, sc, ss⟩ = (a, b) := ⟨_, _, rfl⟩
    have HEN := Lib.hid hen
    have EN := Lib.hid (fun V (g : Gr w V) => show Calls Tryd.prog 21 #[.agg #[.slice bA nb bc, .slice sA ns sc]] V (fun e w' => e = .returned (.tuple #[.string ⟨et.toArray⟩, .int .i64 er]) ∧ Gr V w') from by
      have h := encode_any ⟨bA, bc, bs, sA, sc, ss⟩ V (HPV.out V g) HLV.out HI.out HS.out
      unfold EnP at h
      rw [hen] at h
      unfold Prg.v at h
      simp only [NB.out, NS.out] at h
      exact h)
    clear HG GC hen p0 p1
    obtain ⟨p0, p1, -, -⟩ := XC.out _ G1.out
    go_upto_region 4 with (go_at_call 21; refine (EN.out _ (GX.out.trans G1.out)).mono ?_; rintro e w2 ⟨rfl, g2⟩; have G2 := Lib.hid (G1.out.trans g2); clear g2)
    clear p0 p1
    by_cases h0 : er = 0
    · subst h0
      have HE0 := Lib.hid (show errP ⟨bA, bc, bs, sA, sc, ss⟩ = 0 ∧ et = eP (Prg.pp ⟨bA, bc, bs, sA, sc, ss⟩) from by
        have h := HEN.out
        by_cases h9 : errP ⟨bA, bc, bs, sA, sc, ss⟩ = 0
        · rw [encV_ok h9] at h
          exact ⟨h9, (Prod.mk.inj h).1.symm⟩
        · rw [encV_bad h9] at h
          exact absurd (Prod.mk.inj h).2 h9)
      have DP := Lib.hid (fun V (g : Gr W0 V) => show Calls Tryd.prog 22 #[.string ⟨et.toArray⟩] V (fun e w' => ∃ (bA : Option Addr) (bc : Nat) (bs : List Blk) (sA : Option Addr) (sc : Nat) (ss : List Stt) (nb ns : Nat), e = .returned (.tuple #[.agg #[.slice bA nb bc, .slice sA ns sc], .int .i64 0]) ∧ bs.length = nb ∧ ss.length = ns ∧ DcX et V ⟨bA, bc, bs, sA, sc, ss⟩ w') from by
        have e9 : (decV et).2 = 0 := by rw [HE0.out.2, decV_enc HE0.out.1 HI.out HS.out]
        refine (decode_any et V (by rw [HE0.out.2]; exact eP_len HE0.out.1 SM.out.b SM.out.s CN.out)).mono ?_
        rintro e w' ⟨⟨xA, xc, xs, zA, zc, zs⟩, h1, h2⟩
        exact ⟨xA, xc, xs, zA, zc, zs, _, _, by rw [h1, e9]; rfl, rfl, rfl, h2⟩)
      go_upto_region 6 with (go_at_call 22; refine (DP.out _ G2.out).mono ?_; rintro e w3 ⟨bA1, bc1, bs1, sA1, sc1, ss1, nb1, ns1, rfl, y1, y2, x1⟩; have NB1 := Lib.hid y1; have NS1 := Lib.hid y2; have X1 := Lib.hid x1; clear y1 y2 x1)
      have GZ := Lib.hid (G2.out.trans (X1.out.g.trans (gr_al w3 (.cells #[.slice bA1 nb1 bc1, .slice sA1 ns1 sc1] 29))))
      have Y2 := Lib.hid (al_new w3 (.cells #[.slice bA1 nb1 bc1, .slice sA1 ns1 sc1] 29))
      obtain ⟨k2, hk2⟩ : ∃ m, w3.heap.size = m := ⟨_, rfl⟩
      rw [hk2] at Y2 ⊢
      have XR1 := Lib.hid (X1.out.r.below (below_of (gr_al w3 (.cells #[.slice bA1 nb1 bc1, .slice sA1 ns1 sc1] 29))))
      generalize w3.alloc (.cells #[.slice bA1 nb1 bc1, .slice sA1 ns1 sc1] 29) = W4 at *
      clear hk2
      obtain ⟨p0, p1, -, -⟩ := XC.out _ GZ.out
      obtain ⟨q0, q1, -, -⟩ := dcel2 Y2.out
      have PPE := Lib.hid (show (⟨bA1, bc1, bs1, sA1, sc1, ss1⟩ : Prg).pp = (⟨bA, bc, bs, sA, sc, ss⟩ : Prg).pp from by rw [X1.out.p, HE0.out.2, decV_enc HE0.out.1 HI.out HS.out])
      have SA := Lib.hid (show Calls Tryd.prog 11 #[.agg #[.slice bA nb bc, .slice sA ns sc], .agg #[.slice bA1 nb1 bc1, .slice sA1 ns1 sc1]] W4 (fun e w' => e = .returned (.bool true) ∧ Gr W4 w') from by
        have e1 : bs1.map Blk.pb = bs.map Blk.pb := congrArg PP.bs PPE.out
        have e2 : ss1 = ss := congrArg PP.ss PPE.out
        have h := sameP_any ⟨bA, bc, bs, sA, sc, ss⟩ ⟨bA1, bc1, bs1, sA1, sc1, ss1⟩ W4 (HPV.out _ (GX.out.trans GZ.out)) XR1.out e1 e2 (by have := SM.out.b; simp only at this ⊢; omega) (by have := HS.out; simp only; omega) (fun b hb => by have := HI.out b hb; omega)
        unfold Prg.v at h
        simp only [NB.out, NS.out, NB1.out, NS1.out] at h
        exact h)
      go_upto_region 8 with (go_at_call 11; refine SA.out.mono ?_; rintro e w9 ⟨rfl, g9⟩; have G9 := Lib.hid (GZ.out.trans g9); clear g9)
      have GV := Lib.hid G9.out
      have GV := Lib.hid (show Gr W0 w9 from GV.out)
      have DE := Lib.hid (fun V (g : Gr W0 V) => DE.out V g)
      obtain ⟨VV, hVV⟩ : ∃ V, V = w9 := ⟨_, rfl⟩
      rw [← hVV] at GV ⊢
      clear p0 p1 q0 q1 SA DP hVV
      go_upto_region 9 with (go_at_call 22; refine (DE.out VV GV.out).mono ?_; rintro e w5 ⟨bA2, bc2, bs2, sA2, sc2, ss2, nb2, ns2, rfl, y1, y2, x1⟩; have NB2 := Lib.hid y1; have NS2 := Lib.hid y2; have X2 := Lib.hid x1; clear y1 y2 x1)
      have GY := Lib.hid (GX.out.trans (GV.out.trans (X2.out.g.trans (gr_al w5 (.cells #[.slice bA2 nb2 bc2, .slice sA2 ns2 sc2] 29)))))
      have Y3 := Lib.hid (al_new w5 (.cells #[.slice bA2 nb2 bc2, .slice sA2 ns2 sc2] 29))
      obtain ⟨k3, hk3⟩ : ∃ m, w5.heap.size = m := ⟨_, rfl⟩
      rw [hk3] at Y3 ⊢
      have XR2 := Lib.hid (fun V (g : Gr (w5.alloc (.cells #[.slice bA2 nb2 bc2, .slice sA2 ns2 sc2] 29)) V) => X2.out.r.below (below_of ((gr_al w5 (.cells #[.slice bA2 nb2 bc2, .slice sA2 ns2 sc2] 29)).trans g)))
      generalize w5.alloc (.cells #[.slice bA2 nb2 bc2, .slice sA2 ns2 sc2] 29) = W6 at *
      clear hk3
      obtain ⟨z0, z1, -, -⟩ := dcel2 Y3.out
      rcases TWO.out with hb | hg
      · have DV := Lib.hid hb
        have e13 : dv2 = 13 := by have h := congrArg Prod.snd hb; rw [← HDV.out]; exact h
        have n0 : nb2 = 0 := by have h := congrArg (fun z => z.1.bs.length) hb; have h2 := X2.out.p; rw [← NB2.out]; rw [← h2] at h; simpa [Prg.pp] using h
        have n1 : ns2 = 0 := by have h := congrArg (fun z => z.1.ss.length) hb; have h2 := X2.out.p; rw [← NS2.out]; rw [← h2] at h; simpa [Prg.pp] using h
        clear hb
        subst e13
        subst n0
        subst n1
        go_wp2_with (go_at_call 8; refine (AW.out _).mono ?_; rintro e w7 ⟨rfl, g7⟩; have G7 := Lib.hid g7; clear g7)
        go_ret
        exact ⟨rfl, GY.out.trans G7.out⟩
      · have HG2 := Lib.hid hg.2
        have e0 : dv2 = 0 := by rw [← HDV.out]; exact hg.1
        clear hg
        subst e0
        have EQ := Lib.hid (show errP ⟨bA2, bc2, bs2, sA2, sc2, ss2⟩ = 0 from by rw [errP_pl]; have h := HG2.out.1; rw [← X2.out.p] at h; exact h)
        have EN2 := Lib.hid (show Calls Tryd.prog 21 #[.agg #[.slice bA2 nb2 bc2, .slice sA2 ns2 sc2]] W6 (fun e w' => e = .returned (.tuple #[.string ⟨s.toArray⟩, .int .i64 0]) ∧ Gr W6 w') from by
          have h := encode_any ⟨bA2, bc2, bs2, sA2, sc2, ss2⟩ W6 (XR2.out _ (gr_refl _)) X2.out.l (fun b hb => by have := X2.out.i b hb; omega) (by have := X2.out.s; omega)
          unfold EnP at h
          rw [encV_ok EQ.out, X2.out.p, HG2.out.2] at h
          unfold Prg.v at h
          simp only [NB2.out, NS2.out] at h
          exact h)
        go_wp2_with (first
          | (go_at_call 21; refine EN2.out.mono ?_; rintro e w7 ⟨rfl, g7⟩; have G7 := Lib.hid g7; clear g7)
          | (go_at_call 8; refine (AW.out _).mono ?_; rintro e w8 ⟨rfl, g8⟩; have G8 := Lib.hid g8; clear g8))
        go_ret
        exact ⟨rfl, GY.out.trans (G7.out.trans G8.out)⟩
    · have e0 : (er == 0) = false := by simpa using h0
      go_upto_region 8 with (fail)
      have GV := Lib.hid (show Gr W0 w2 from G2.out)
      obtain ⟨VV, hVV⟩ : ∃ V, V = w2 := ⟨_, rfl⟩
      rw [← hVV] at GV ⊢
      clear hVV
      go_upto_region 9 with (go_at_call 22; refine (DE.out VV GV.out).mono ?_; rintro e w5 ⟨bA2, bc2, bs2, sA2, sc2, ss2, nb2, ns2, rfl, y1, y2, x1⟩; have NB2 := Lib.hid y1; have NS2 := Lib.hid y2; have X2 := Lib.hid x1; clear y1 y2 x1)
      have GY := Lib.hid (GX.out.trans (GV.out.trans (X2.out.g.trans (gr_al w5 (.cells #[.slice bA2 nb2 bc2, .slice sA2 ns2 sc2] 29)))))
      have Y3 := Lib.hid (al_new w5 (.cells #[.slice bA2 nb2 bc2, .slice sA2 ns2 sc2] 29))
      obtain ⟨k3, hk3⟩ : ∃ m, w5.heap.size = m := ⟨_, rfl⟩
      rw [hk3] at Y3 ⊢
      have XR2 := Lib.hid (fun V (g : Gr (w5.alloc (.cells #[.slice bA2 nb2 bc2, .slice sA2 ns2 sc2] 29)) V) => X2.out.r.below (below_of ((gr_al w5 (.cells #[.slice bA2 nb2 bc2, .slice sA2 ns2 sc2] 29)).trans g)))
      generalize w5.alloc (.cells #[.slice bA2 nb2 bc2, .slice sA2 ns2 sc2] 29) = W6 at *
      clear hk3
      obtain ⟨z0, z1, -, -⟩ := dcel2 Y3.out
      rcases TWO.out with hb | hg
      · have DV := Lib.hid hb
        have e13 : dv2 = 13 := by have h := congrArg Prod.snd hb; rw [← HDV.out]; exact h
        have n0 : nb2 = 0 := by have h := congrArg (fun z => z.1.bs.length) hb; have h2 := X2.out.p; rw [← NB2.out]; rw [← h2] at h; simpa [Prg.pp] using h
        have n1 : ns2 = 0 := by have h := congrArg (fun z => z.1.ss.length) hb; have h2 := X2.out.p; rw [← NS2.out]; rw [← h2] at h; simpa [Prg.pp] using h
        clear hb
        subst e13
        subst n0
        subst n1
        go_wp2_with (go_at_call 8; refine (AW.out _).mono ?_; rintro e w7 ⟨rfl, g7⟩; have G7 := Lib.hid g7; clear g7)
        go_ret
        exact ⟨rfl, GY.out.trans G7.out⟩
      · have HG2 := Lib.hid hg.2
        have e0 : dv2 = 0 := by rw [← HDV.out]; exact hg.1
        clear hg
        subst e0
        have EQ := Lib.hid (show errP ⟨bA2, bc2, bs2, sA2, sc2, ss2⟩ = 0 from by rw [errP_pl]; have h := HG2.out.1; rw [← X2.out.p] at h; exact h)
        have EN2 := Lib.hid (show Calls Tryd.prog 21 #[.agg #[.slice bA2 nb2 bc2, .slice sA2 ns2 sc2]] W6 (fun e w' => e = .returned (.tuple #[.string ⟨s.toArray⟩, .int .i64 0]) ∧ Gr W6 w') from by
          have h := encode_any ⟨bA2, bc2, bs2, sA2, sc2, ss2⟩ W6 (XR2.out _ (gr_refl _)) X2.out.l (fun b hb => by have := X2.out.i b hb; omega) (by have := X2.out.s; omega)
          unfold EnP at h
          rw [encV_ok EQ.out, X2.out.p, HG2.out.2] at h
          unfold Prg.v at h
          simp only [NB2.out, NS2.out] at h
          exact h)
        go_wp2_with (first
          | (go_at_call 21; refine EN2.out.mono ?_; rintro e w7 ⟨rfl, g7⟩; have G7 := Lib.hid g7; clear g7)
          | (go_at_call 8; refine (AW.out _).mono ?_; rintro e w8 ⟨rfl, g8⟩; have G8 := Lib.hid g8; clear g8))
        go_ret
        exact ⟨rfl, GY.out.trans (G7.out.trans G8.out)⟩
  · have e8 : decide ((300 : Int) < (s.length : Int)) = true := decide_eq_true (by omega)
    go_wp2_with (first
      | (go_at_call 20; refine (GC.out _ GX.out).mono ?_; rintro e w1 ⟨⟨g, rfl, hg⟩, b1⟩; have G1 := Lib.hid (gr_of b1); clear b1 hg; cases g)
      | (go_at_call 8; refine (AW.out _).mono ?_; rintro e w2 ⟨rfl, g2⟩; have G2 := Lib.hid g2; clear g2))
    all_goals (go_ret; exact ⟨rfl, GX.out.trans (G1.out.trans G2.out)⟩)
theorem law_encoding_any (p : Prg) (s : T) (w : World) (hp : p.Rd w) (hl : p.Len) (hc : ∀ b ∈ p.bs, b.ins.length ≤ 10000000000000) (hs : s.length ≤ 9223372036854775807) :
    Calls Tryd.prog 6 #[p.v, .string ⟨s.toArray⟩] w fun e w' => e = .returned (.bool true) ∧ w.grownBy w' none := encoding_walk p s w hp hl hc hs
end Go.Proofs.YtgboboljgcfggaaDoor
