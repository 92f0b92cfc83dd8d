/- Walk: Encode. -/
import Derived.Test.YtgboboljgcfggaaGreatDoorEnB
import Derived.Test.YtgboboljgcfggaaGreatDoorM7
namespace Go.Proofs.YtgboboljgcfggaaGreatDoor
open Go.RowKit

theorem ce2 {W : World} {k : Nat} {u0 u1 : Value} {t : TypeId} (h : W.heap[k]? = some (.cells #[u0, u1] t (0, 0))) : W.cell? ⟨k, 0, none⟩ = some u0 ∧ W.cell? ⟨k, 1, none⟩ = some u1 :=
  ⟨by rw [Lib.cell_of_heap h]; rfl, by rw [Lib.cell_of_heap h]; rfl⟩
/-- What Encode leaves. -/
def EnP (p : Prg) (w : World) (e : Ending) (w' : World) : Prop := e = .returned (.tuple #[tv (encV p).1, iv (encV p).2]) ∧ Gr w w'
theorem encV_bad {p : Prg} (h : errP p ≠ 0) : encV p = ([], errP p) := if_neg h
theorem encV_ok {p : Prg} (h : errP p = 0) : encV p = (eP p.pp, 0) := if_pos h
attribute [local irreducible] Calls in
set_option maxRecDepth 100000 in
set_option maxHeartbeats 4000000 in
theorem encode_any (p : Prg) (w : World) (hp : p.Rd w) (hl : p.Len) (hi : ∀ b ∈ p.bs, b.ins.length ≤ 1000000) (hs : p.ss.length ≤ 1000000) : Calls Tryz.prog 13 #[p.v] w (EnP p w) := by
  have CK := Lib.hid (fun V (g : Gr w V) => check_any p V (hp.below (below_of g)) hl.b hl.s hl.i hl.n hl.k)
  by_cases h0 : errP p = 0
  · have POK := prg_ok h0 hi hs
    have H1 := (errP_zero h0).1
    unfold EnP
    rw [encV_ok h0]
    rw [h0] at CK
    unfold Prg.pp at POK ⊢
    unfold Prg.v at CK ⊢
    obtain ⟨bA, bc, bs, sA, sc, ss⟩ := p
    simp only at CK POK H1 hs hi ⊢
    obtain ⟨nb, hnb⟩ : ∃ n, bs.length = n := ⟨_, rfl⟩
    obtain ⟨ns, hns⟩ : ∃ n, ss.length = n := ⟨_, rfl⟩
    obtain ⟨acc1, ha1⟩ : ∃ a, a = eN nb := ⟨_, rfl⟩
    have l1 : acc1.length ≤ 6 := by rw [ha1]; exact eN_len ⟨by omega, by omega⟩
    have HB := Lib.hid (fun V (g : Gr w V) => hp.b.gr g)
    have HI := Lib.hid (fun b (hb : b ∈ bs) => hp.i b hb)
    have HS := Lib.hid (fun V (g : Gr w V) => hp.s.gr g)
    have OK := Lib.hid POK
    have HNB := Lib.hid hnb
    have HNS := Lib.hid hns
    have HA1 := Lib.hid ha1
    rw [hnb] at CK H1 ⊢
    rw [hns] at CK hs ⊢
    have FIN := Lib.hid (show acc1 ++ eL eB (bs.map Blk.pb) ++ eN ns ++ eL eS ss = eP ⟨bs.map Blk.pb, ss⟩ from by
      unfold eP
      simp only [List.length_map]
      rw [ha1, hnb, hns])
    rw [← FIN.out]
    clear hp hl POK hnb hns ha1 h0 hi
    have GX := Lib.hid (gr_al w (.cells #[.slice bA nb bc, .slice sA ns sc] 26))
    have X0 := Lib.hid (al_new w (.cells #[.slice bA nb bc, .slice sA ns sc] 26))
    obtain ⟨kx, hkx⟩ : ∃ m, w.heap.size = m := ⟨_, rfl⟩
    go_enter Tryz.func13, Tryz.ntmps13
    go_upto_region 1 with fail
    rw [hkx] at X0
    clear hkx
    generalize w.alloc (.cells #[.slice bA nb bc, .slice sA ns sc] 26) = W0 at *
    have BX := Lib.hid (fun V (g : Gr W0 V) => ce2 (gr_h g X0.out))
    obtain ⟨b0, b1⟩ := BX.out _ (gr_refl _)
    go_upto_region 4 with (go_at_call 26; refine (CK.out _ GX.out).mono ?_; rintro e W1 ⟨rfl, g1⟩; have G1 := Lib.hid (gr_of g1); clear g1)
    clear b0 b1
    obtain ⟨b0, b1⟩ := BX.out _ G1.out
    have GW := Lib.hid (GX.out.trans G1.out)
    have S0 := Lib.hid (WS.new W1)
    have GA := Lib.hid (gr_al W1 (.cells #[.pointer none, .slice none 0 0] 95))
    obtain ⟨kw, hkw⟩ : ∃ m, W1.heap.size = m := ⟨_, rfl⟩
    have b0 := gr_c GA.out b0
    have b1 := gr_c GA.out b1
    go_upto_region 5 with fail
    generalize W1.alloc (.cells #[.pointer none, .slice none 0 0] 95) = W2 at *
    have HKW := Lib.hid hkw
    have C1 := Lib.hid (show Calls Tryz.prog 32 #[.pointer (some ⟨kw, 0, none⟩), .int .i64 nb] W2 (WrP W1 acc1 W2) from by
      have h := wnum_any W1 W2 [] nb S0.out ⟨by omega, by omega⟩ (by simp)
      rw [List.nil_append, hkw, ← HA1.out] at h
      exact h)
    go_upto_region 6 with (go_at_call 32; refine (C1.out).mono ?_; rintro e W3 ⟨rfl, r, k⟩; have S3 := Lib.hid r; clear r k)
    clear b0 b1 C1 hkw
    obtain ⟨b0, b1⟩ := BX.out _ (G1.out.trans S3.out.gr)
    go_upto_region 7 with fail
    clear b0 b1
    go_loopw [22] (fun u V => ∃ (j : Nat) (a : T), j ≤ nb ∧ u = .int .i64 j ∧ a.length ≤ 6 + j * 125000000 ∧ Hid (WS W1 a V ∧ a = acc1 ++ eL eB ((bs.take j).map Blk.pb))) (fun u _ => nb - (intOf u).toNat)
    case atStart => exact ⟨0, acc1, Nat.zero_le _, rfl, by omega, Lib.hid ⟨S3.out, by simp [eL]⟩⟩
    case round =>
      obtain ⟨j, a, hj, rfl, hal, HW⟩ := hrel
      by_cases hlt : j < nb
      · obtain ⟨x, hx⟩ : ∃ x, bs[j]? = some x := ⟨_, List.getElem?_eq_getElem (by rw [HNB.out]; exact hlt)⟩
        have hxi : bs[j]'(by rw [HNB.out]; exact hlt) = x := by rw [List.getElem?_eq_getElem (by rw [HNB.out]; exact hlt)] at hx; exact Option.some.inj hx
        obtain ⟨ab, a1, hA, ha, hab, c0, c1, c2⟩ := (HB.out _ (GW.out.trans HW.out.1.gr)).blk (k := j) (by rw [HNB.out]; exact hlt)
        rw [hxi] at c0 c1 c2
        have hxm := List.mem_of_getElem? hx
        have BO := Lib.hid (show BOk x.pb ∧ ∀ y ∈ x.ins, y.name.length ≤ 100 from ⟨OK.out.1.b _ (List.mem_map.2 ⟨x, hxm, rfl⟩), OK.out.2.1 x hxm⟩)
        have RX := Lib.hid ((HI.out x hxm).gr GW.out)
        obtain ⟨xc, xp, xA, xC, xL⟩ := x
        simp only at c0 c1 c2
        obtain ⟨xn, hxn⟩ : ∃ n, xL.length = n := ⟨_, rfl⟩
        rw [hxn] at c2
        obtain ⟨a2, ha2⟩ : ∃ z, z = a ++ eB (Blk.pb ⟨xc, xp, xA, xC, xL⟩) := ⟨_, rfl⟩
        have q2 : a2.length ≤ a.length + 125000000 := by have := eB_len BO.out.1 BO.out.2; rw [ha2, List.length_append]; omega
        have hjm : j * 125000000 ≤ 250000000000 := by omega
        have NEXT := Lib.hid (show a2 = acc1 ++ eL eB ((bs.take (j + 1)).map Blk.pb) from by
          rw [ha2, HW.out.2, List.append_assoc, List.map_take, List.map_take, eL_take (x := Blk.pb ⟨xc, xp, xA, xC, xL⟩) (by rw [List.getElem?_map, hx]; rfl)])
        have CB := Lib.hid (fun V (h : WS W1 a V) => show Calls Tryz.prog 33 #[.pointer (some ⟨kw, 0, none⟩), .agg #[.int .i64 xc, .bool xp, .slice xA xn xC]] V (WrP W1 a2 V) from by
          have h2 := wblock_any W1 V a ⟨xc, xp, xA, xC, xL⟩ h RX.out BO.out.1 BO.out.2 (by omega)
          simp only at h2
          rw [hxn, ← ha2, HKW.out] at h2
          exact h2)
        subst hA
        clear hx hxi hxm hxn ha2
        go_upto_region 9 with fail
        have GB := Lib.hid (gr_al wr (.cells #[.int .i64 xc, .bool xp, .slice xA xn xC] 69))
        have YH := Lib.hid (al_new wr (.cells #[.int .i64 xc, .bool xp, .slice xA xn xC] 69))
        obtain ⟨ky, hky⟩ : ∃ k, wr.heap.size = k := ⟨_, rfl⟩
        rw [hky] at YH ⊢
        clear c0 c1 c2 hab hky
        generalize wr.alloc (.cells #[.int .i64 xc, .bool xp, .slice xA xn xC] 69) = W4 at *
        have d0 : W4.cell? ⟨ky, 0, none⟩ = some (.int .i64 xc) := by rw [Lib.cell_of_heap YH.out]; rfl
        have d1 : W4.cell? ⟨ky, 1, none⟩ = some (.bool xp) := by rw [Lib.cell_of_heap YH.out]; rfl
        have d2 : W4.cell? ⟨ky, 2, none⟩ = some (.slice xA xn xC) := by rw [Lib.cell_of_heap YH.out]; rfl
        go_wp2_with (go_at_call 33; refine (CB.out _ (HW.out.1.go GB.out)).mono ?_; rintro e W5 ⟨rfl, r, k⟩; have S5 := Lib.hid r; clear r k)
        exact ⟨⟨j + 1, a2, by omega, by simp, by omega, Lib.hid ⟨S5.out, NEXT.out⟩⟩, by simp [intOf]; omega⟩
      · obtain rfl : nb = j := by omega
        obtain ⟨acc2, ha2⟩ : ∃ z, z = a ++ eN ns := ⟨_, rfl⟩
        have l2 : acc2.length ≤ a.length + 6 := by have := eN_len (n := (ns : Int)) ⟨by omega, by omega⟩; rw [ha2, List.length_append]; omega
        have hjm : nb * 125000000 ≤ 250000000000 := by omega
        have l22 : acc2.length ≤ 250000000012 := by omega
        have HA2 := Lib.hid (show acc2 = acc1 ++ eL eB (bs.map Blk.pb) ++ eN ns from by
          have h := HW.out.2
          rw [List.take_of_length_le (Nat.le_of_eq HNB.out)] at h
          rw [ha2, h])
        have C2 := Lib.hid (show Calls Tryz.prog 32 #[.pointer (some ⟨kw, 0, none⟩), .int .i64 ns] wr (WrP W1 acc2 wr) from by
          have h := wnum_any W1 wr a ns HW.out.1 ⟨by omega, by omega⟩ (by omega)
          rw [HKW.out, ← ha2] at h
          exact h)
        clear ha2
        obtain ⟨b0, b1⟩ := BX.out _ (G1.out.trans HW.out.1.gr)
        go_upto_region 12 with (go_at_call 32; refine (C2.out).mono ?_; rintro e W3 ⟨rfl, r, k⟩; have S6 := Lib.hid r; clear r k)
        clear b0 b1 C2
        obtain ⟨b0, b1⟩ := BX.out _ (G1.out.trans S6.out.gr)
        go_upto_region 13 with fail
        clear b0 b1 HW
        go_loopw [36] (fun u V => ∃ (j : Nat) (a : T), j ≤ ns ∧ u = .int .i64 j ∧ a.length ≤ acc2.length + j * 118 ∧ Hid (WS W1 a V ∧ a = acc2 ++ eL eS (ss.take j))) (fun u _ => ns - (intOf u).toNat)
        case atStart => exact ⟨0, acc2, Nat.zero_le _, rfl, by omega, Lib.hid ⟨S6.out, by simp [eL]⟩⟩
        case round =>
          clear hal
          obtain ⟨j, a, hj, rfl, hal, HW⟩ := hrel
          by_cases hlt : j < ns
          · obtain ⟨x, hx⟩ : ∃ x, ss[j]? = some x := ⟨_, List.getElem?_eq_getElem (by rw [HNS.out]; exact hlt)⟩
            have hxi : ss[j]'(by rw [HNS.out]; exact hlt) = x := by rw [List.getElem?_eq_getElem (by rw [HNS.out]; exact hlt)] at hx; exact Option.some.inj hx
            obtain ⟨ab, a1, hA, ha, hab, c0, c1, c2⟩ := (HS.out _ (GW.out.trans HW.out.1.gr)).stt (k := j) (by rw [HNS.out]; exact hlt)
            rw [hxi] at c0 c1 c2
            have hxm := List.mem_of_getElem? hx
            have SO := Lib.hid (show SOk x ∧ x.pack.length ≤ 100 from ⟨OK.out.1.s _ hxm, OK.out.2.2 x hxm⟩)
            obtain ⟨sp, si, sb⟩ := x
            simp only at c0 c1 c2
            obtain ⟨a2, ha2⟩ : ∃ z, z = a ++ onePut sp := ⟨_, rfl⟩
            obtain ⟨a3, ha3⟩ : ∃ z, z = a2 ++ eN si := ⟨_, rfl⟩
            obtain ⟨a4, ha4⟩ : ∃ z, z = a3 ++ eN sb := ⟨_, rfl⟩
            have q2 : a2.length ≤ a.length + 106 := by have := put_len SO.out.2; simp only at this; rw [ha2, List.length_append]; omega
            have q3 : a3.length ≤ a.length + 112 := by have := eN_len SO.out.1.i; simp only at this; rw [ha3, List.length_append]; omega
            have q4 : a4.length ≤ a.length + 118 := by have := eN_len SO.out.1.b; simp only at this; rw [ha4, List.length_append]; omega
            have hjn : j * 118 ≤ 118000000 := by omega
            have NEXT := Lib.hid (show a4 = acc2 ++ eL eS (ss.take (j + 1)) from by
              rw [eL_take hx, ha4, ha3, ha2, HW.out.2]
              unfold eS
              simp only [List.append_assoc])
            have M1 := Lib.hid (fun V (h : WS W1 a V) => show Calls Tryz.prog 34 #[.pointer (some ⟨kw, 0, none⟩), .string ⟨sp.toArray⟩] V (WrP W1 a2 V) from by
              have h2 := wtext_any W1 V a sp h (by have := SO.out.2; simp only at this; omega) (by omega)
              rw [HKW.out, ← ha2] at h2
              exact h2)
            have M2 := Lib.hid (fun V (h : WS W1 a2 V) => show Calls Tryz.prog 32 #[.pointer (some ⟨kw, 0, none⟩), .int .i64 si] V (WrP W1 a3 V) from by
              have h2 := wnum_any W1 V a2 si h SO.out.1.i (by omega)
              rw [HKW.out, ← ha3] at h2
              exact h2)
            have M3 := Lib.hid (fun V (h : WS W1 a3 V) => show Calls Tryz.prog 32 #[.pointer (some ⟨kw, 0, none⟩), .int .i64 sb] V (WrP W1 a4 V) from by
              have h2 := wnum_any W1 V a3 sb h SO.out.1.b (by omega)
              rw [HKW.out, ← ha4] at h2
              exact h2)
            subst hA
            clear hx hxi hxm ha2 ha3 ha4
            go_upto_region 15 with fail
            have GB := Lib.hid (gr_al wr (.cells #[.string ⟨sp.toArray⟩, .int .i64 si, .int .i64 sb] 79))
            have YH := Lib.hid (al_new wr (.cells #[.string ⟨sp.toArray⟩, .int .i64 si, .int .i64 sb] 79))
            have HS9 := Lib.hid HW.out.1.lt
            obtain ⟨ky, hky⟩ : ∃ k, wr.heap.size = k := ⟨_, rfl⟩
            rw [hky] at YH HS9 ⊢
            clear c0 c1 c2 hab hky
            generalize wr.alloc (.cells #[.string ⟨sp.toArray⟩, .int .i64 si, .int .i64 sb] 79) = W4 at *
            have BY := Lib.hid (fun V' (k : OK5 W1 W4 V') => (show V'.cell? ⟨ky, 0, none⟩ = some (.string ⟨sp.toArray⟩) ∧ V'.cell? ⟨ky, 1, none⟩ = some (.int .i64 si) ∧ V'.cell? ⟨ky, 2, none⟩ = some (.int .i64 sb) from by
              have h2 := ok5_h k (by decide) (by have := HS9.out; omega) YH.out
              exact ⟨by rw [Lib.cell_of_heap h2]; rfl, by rw [Lib.cell_of_heap h2]; rfl, by rw [Lib.cell_of_heap h2]; rfl⟩))
            obtain ⟨d0, d1, d2⟩ := BY.out W4 (Lib.OthersKept.refl _ _ _)
            go_upto_region 16 with (go_at_call 34; refine (M1.out _ (HW.out.1.go GB.out)).mono ?_; rintro e W5 ⟨rfl, r, k⟩; have S5 := Lib.hid r; have J5 := Lib.hid k; clear r k)
            clear d0 d1 d2
            obtain ⟨d0, d1, d2⟩ := BY.out W5 J5.out
            go_upto_region 17 with (go_at_call 32; refine (M2.out _ S5.out).mono ?_; rintro e W7 ⟨rfl, r, k⟩; have S7 := Lib.hid r; have J7 := Lib.hid (J5.out.trans k); clear r k)
            clear d0 d1 d2
            obtain ⟨d0, d1, d2⟩ := BY.out W7 J7.out
            go_wp2_with (go_at_call 32; refine (M3.out _ S7.out).mono ?_; rintro e W8 ⟨rfl, r, k⟩; have S8 := Lib.hid r; clear r k)
            exact ⟨⟨j + 1, a4, by omega, by simp, by omega, Lib.hid ⟨S8.out, NEXT.out⟩⟩, by simp [intOf]; omega⟩
          · obtain rfl : ns = j := by omega
            have EQ := Lib.hid (show a = acc1 ++ eL eB (bs.map Blk.pb) ++ eN ns ++ eL eS ss from by
              have h := HW.out.2
              rw [List.take_of_length_le (Nat.le_of_eq HNS.out)] at h
              rw [h, HA2.out])
            have ST := Lib.hid (show Calls Tryz.prog 35 #[.pointer (some ⟨kw, 0, none⟩)] wr (fun e w' => e = .returned (.string ⟨a.toArray⟩) ∧ Below W1.heap.size wr w') from by
              have h := stringW_any W1.heap.size W1.heap.size a wr HW.out.1.bu (by
                rw [EQ.out, HA1.out]
                have := dig_ne (nb : Int).toNat
                unfold eN
                intro e
                simp at e
                exact this e.1)
              rw [HKW.out] at h ⊢
              exact h)
            go_wp2_with (go_at_call 35; refine (ST.out).mono ?_; rintro e W9 ⟨rfl, b9⟩; have G9 := Lib.hid (gr_of ((below_of HW.out.1.gr).trans b9)); clear b9)
            go_ret2
            exact ⟨by rw [← EQ.out]; rfl, GW.out.trans G9.out⟩
  · unfold EnP
    rw [encV_bad h0]
    obtain ⟨er, her⟩ : ∃ z, errP p = z := ⟨_, rfl⟩
    rw [her] at CK h0 ⊢
    have e0 : (er != 0) = true := by simpa using h0
    unfold Prg.v at CK ⊢
    obtain ⟨bA, bc, bs, sA, sc, ss⟩ := p
    simp only at CK ⊢
    obtain ⟨nb, hnb⟩ : ∃ n, bs.length = n := ⟨_, rfl⟩
    obtain ⟨ns, hns⟩ : ∃ n, ss.length = n := ⟨_, rfl⟩
    rw [hnb, hns] at CK ⊢
    clear hp hl hnb hns her hi hs h0
    have GX := Lib.hid (gr_al w (.cells #[.slice bA nb bc, .slice sA ns sc] 26))
    have X0 := Lib.hid (al_new w (.cells #[.slice bA nb bc, .slice sA ns sc] 26))
    obtain ⟨kx, hkx⟩ : ∃ m, w.heap.size = m := ⟨_, rfl⟩
    go_enter Tryz.func13, Tryz.ntmps13
    go_upto_region 1 with fail
    rw [hkx] at X0
    clear hkx
    generalize w.alloc (.cells #[.slice bA nb bc, .slice sA ns sc] 26) = W0 at *
    obtain ⟨b0, b1⟩ := ce2 X0.out
    go_wp2_with (go_at_call 26; refine (CK.out _ GX.out).mono ?_; rintro e W1 ⟨rfl, g1⟩; have G1 := Lib.hid (gr_of g1); clear g1)
    go_ret2
    exact ⟨rfl, GX.out.trans G1.out⟩
end Go.Proofs.YtgboboljgcfggaaGreatDoor
