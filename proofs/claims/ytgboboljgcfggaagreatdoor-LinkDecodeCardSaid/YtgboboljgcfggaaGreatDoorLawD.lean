/- Law: LinkDecode. -/
import Derived.Test.YtgboboljgcfggaaGreatDoorRfD
import Derived.Test.YtgboboljgcfggaaGreatDoorM7
import Derived.Test.YtgboboljgcfggaaGreatDoorSpg
namespace Go.Proofs.YtgboboljgcfggaaGreatDoor
open Go.RowKit

attribute [local irreducible] Calls in
set_option maxRecDepth 100000 in
set_option maxHeartbeats 8000000 in
theorem decode_walk (s : T) (w : World) (hs : s.length ≤ 9223372036854775807) :
    Calls Tryz.prog 3 #[.string ⟨s.toArray⟩] w fun e w' => e = .returned (.bool true) ∧ Gr w w' := by
  have AW := Lib.hid (fun V => awake_any V)
  have SZ : (⟨s.toArray⟩ : ByteArray).size = s.length := rfl
  obtain ⟨dv, hdv⟩ : ∃ z, (decV s).2 = z := ⟨_, rfl⟩
  have HDV := Lib.hid hdv
  clear hdv
  go_enter Tryz.func3, Tryz.ntmps3
  by_cases h3 : s.length ≤ 300
  · have e8 : decide ((300 : Int) < (s.length : Int)) = false := decide_eq_false (by omega)
    have DE := Lib.hid (fun V => show Calls Tryz.prog 7 #[.string ⟨s.toArray⟩] V (fun e w' => ∃ (bA : Option Addr) (bc : Nat) (bs : List Blk) (sA : Option Addr) (sc : Nat) (ss : List Stt) (nb ns : Nat), e = .returned (.tuple #[.agg #[.slice bA nb bc, .slice sA ns sc], .int .i64 dv]) ∧ bs.length = nb ∧ ss.length = ns ∧ DcX s V ⟨bA, bc, bs, sA, sc, ss⟩ w') from by
      refine (decode_any s V (by omega)).mono ?_
      rintro e w' ⟨⟨xA, xc, xs, zA, zc, zs⟩, h1, h2⟩
      exact ⟨xA, xc, xs, zA, zc, zs, _, _, by rw [h1, HDV.out]; rfl, rfl, rfl, h2⟩)
    have RE := Lib.hid (fun V => show Calls Tryz.prog 8 #[.string ⟨s.toArray⟩] V (fun e w' => ∃ (bA : Option Addr) (bc : Nat) (bs : List Blk) (sA : Option Addr) (sc : Nat) (ss : List Stt) (nb ns : Nat), e = .returned (.tuple #[.agg #[.slice bA nb bc, .slice sA ns sc], .int .i64 dv]) ∧ bs.length = nb ∧ ss.length = ns ∧ DcX s V ⟨bA, bc, bs, sA, sc, ss⟩ w') from by
      refine (rdecode_any s V (by omega)).mono ?_
      rintro e w' ⟨⟨xA, xc, xs, zA, zc, zs⟩, h1, h2⟩
      exact ⟨xA, xc, xs, zA, zc, zs, _, _, by rw [h1, HDV.out]; rfl, rfl, rfl, h2⟩)
    go_upto_region 4 with (go_at_call 7; refine (DE.out _).mono ?_; rintro e w3 ⟨bA1, bc1, bs1, sA1, sc1, ss1, nb1, ns1, rfl, y1, y2, x1⟩; have NB1 := Lib.hid y1; have NS1 := Lib.hid y2; have X1 := Lib.hid x1; clear y1 y2 x1)
    have G1 := Lib.hid (X1.out.g.trans (gr_al w3 (.cells #[.slice bA1 nb1 bc1, .slice sA1 ns1 sc1] 26)))
    have Y1 := Lib.hid (al_new w3 (.cells #[.slice bA1 nb1 bc1, .slice sA1 ns1 sc1] 26))
    obtain ⟨k1, hk1⟩ : ∃ m, w3.heap.size = m := ⟨_, rfl⟩
    rw [hk1] at Y1 ⊢
    have XR1 := Lib.hid (fun V (g : Gr (w3.alloc (.cells #[.slice bA1 nb1 bc1, .slice sA1 ns1 sc1] 26)) V) => X1.out.r.below (below_of ((gr_al w3 (.cells #[.slice bA1 nb1 bc1, .slice sA1 ns1 sc1] 26)).trans g)))
    have XP1 := Lib.hid X1.out.p
    have XL1 := Lib.hid (show bs1.length ≤ 100001 ∧ ss1.length ≤ 100001 ∧ ∀ b ∈ bs1, b.ins.length ≤ 100001 from ⟨X1.out.b, X1.out.s, X1.out.i⟩)
    generalize w3.alloc (.cells #[.slice bA1 nb1 bc1, .slice sA1 ns1 sc1] 26) = W4 at *
    clear hk1 X1
    have XC1 := Lib.hid (fun V (g : Gr W4 V) => dcel2 (gr_h g Y1.out))
    go_upto_region 5 with (go_at_call 8; refine (RE.out _).mono ?_; rintro e w5 ⟨bA2, bc2, bs2, sA2, sc2, ss2, nb2, ns2, rfl, y1, y2, x1⟩; have NB2 := Lib.hid y1; have NS2 := Lib.hid y2; have X2 := Lib.hid x1; clear y1 y2 x1)
    have G2 := Lib.hid (X2.out.g.trans (gr_al w5 (.cells #[.slice bA2 nb2 bc2, .slice sA2 ns2 sc2] 26)))
    have Y2 := Lib.hid (al_new w5 (.cells #[.slice bA2 nb2 bc2, .slice sA2 ns2 sc2] 26))
    obtain ⟨k2, hk2⟩ : ∃ m, w5.heap.size = m := ⟨_, rfl⟩
    rw [hk2] at Y2 ⊢
    have XR2 := Lib.hid (fun V (g : Gr (w5.alloc (.cells #[.slice bA2 nb2 bc2, .slice sA2 ns2 sc2] 26)) V) => X2.out.r.below (below_of ((gr_al w5 (.cells #[.slice bA2 nb2 bc2, .slice sA2 ns2 sc2] 26)).trans g)))
    have XP2 := Lib.hid X2.out.p
    generalize w5.alloc (.cells #[.slice bA2 nb2 bc2, .slice sA2 ns2 sc2] 26) = W6 at *
    clear hk2 X2
    obtain ⟨p0, p1, -, -⟩ := XC1.out _ G2.out
    obtain ⟨q0, q1, -, -⟩ := dcel2 Y2.out
    have SA := Lib.hid (show Calls Tryz.prog 9 #[.agg #[.slice bA1 nb1 bc1, .slice sA1 ns1 sc1], .agg #[.slice bA2 nb2 bc2, .slice sA2 ns2 sc2]] W6 (fun e w' => e = .returned (.bool true) ∧ Gr W6 w') from by
      have e0 : (⟨bA2, bc2, bs2, sA2, sc2, ss2⟩ : Prg).pp = (⟨bA1, bc1, bs1, sA1, sc1, ss1⟩ : Prg).pp := by rw [XP1.out, XP2.out]
      have e1 : bs2.map Blk.pb = bs1.map Blk.pb := congrArg PP.bs e0
      have e2 : ss2 = ss1 := congrArg PP.ss e0
      have h := sameP_any ⟨bA1, bc1, bs1, sA1, sc1, ss1⟩ ⟨bA2, bc2, bs2, sA2, sc2, ss2⟩ W6 (XR1.out _ G2.out) (XR2.out _ (gr_refl _)) e1 e2 (by have := XL1.out.1; simp only; omega) (by have := XL1.out.2.1; simp only; omega) (fun b hb => by have := XL1.out.2.2 b hb; omega)
      unfold Prg.v at h
      simp only [NB1.out, NS1.out, NB2.out, NS2.out] at h
      exact h)
    go_wp2_with (first
      | (go_at_call 9; refine SA.out.mono ?_; rintro e w9 ⟨rfl, g9⟩; have G9 := Lib.hid g9; clear g9)
      | (go_at_call 6; refine (AW.out _).mono ?_; rintro e w7 ⟨rfl, g7⟩; have G7 := Lib.hid g7; clear g7))
    go_ret
    exact ⟨rfl, G1.out.trans (G2.out.trans (G9.out.trans G7.out))⟩
  · have e8 : decide ((300 : Int) < (s.length : Int)) = true := decide_eq_true (by omega)
    go_wp2_with (go_at_call 6; refine (AW.out _).mono ?_; rintro e w2 ⟨rfl, g2⟩; have G2 := Lib.hid g2; clear g2)
    go_ret
    exact ⟨rfl, G2.out⟩
theorem law_decode_any (s : T) (w : World) (hs : s.length ≤ 9223372036854775807) :
    Calls Tryz.prog 3 #[.string ⟨s.toArray⟩] w fun e w' => e = .returned (.bool true) ∧ w.grownBy w' none := decode_walk s w hs
end Go.Proofs.YtgboboljgcfggaaGreatDoor
