/- Walk: Encode of the reference. -/
import Derived.Test.YtgboboljgcfggaaGreatDoorRfP
import Derived.Test.YtgboboljgcfggaaGreatDoorEnC
import Derived.Test.YtgboboljgcfggaaGreatDoorM7
namespace Go.Proofs.YtgboboljgcfggaaGreatDoor
open Go.RowKit

attribute [local irreducible] Calls in
set_option maxRecDepth 100000 in
set_option maxHeartbeats 8000000 in
/-- One block: the loop's body behind the box. -/
theorem rencode_any (p : Prg) (w : World) (hp : p.Rd w) (hl : p.Len) (hi : ∀ b ∈ p.bs, b.ins.length ≤ 1000000) (hs : p.ss.length ≤ 1000000) : Calls Tryz.prog 14 #[p.v] w (EnP p w) := by
  have CK := Lib.hid (fun V (g : Gr w V) => rcheck_any p V (hp.below (below_of g)) hl.b hl.s hl.i hl.k)
  by_cases h0 : errP p = 0
  · have POK := prg_ok h0 hi hs
    have H1 := (errP_zero h0).1
    unfold EnP
    rw [encV_ok h0]
    rw [h0] at CK
    unfold Prg.pp at POK ⊢
    unfold Prg.v at CK ⊢
    obtain ⟨bA, bc, bs, sA, sc, ss⟩ := p
    simp only at CK POK H1 hs hi ⊢
    obtain ⟨nb, hnb⟩ : ∃ n, bs.length = n := ⟨_, rfl⟩
    obtain ⟨ns, hns⟩ : ∃ n, ss.length = n := ⟨_, rfl⟩
    obtain ⟨acc1, ha1⟩ : ∃ a, a = eN nb := ⟨_, rfl⟩
    have l1 : acc1.length ≤ 6 := by rw [ha1]; exact eN_len ⟨by omega, by omega⟩
    have HB := Lib.hid (fun V (g : Gr w V) => hp.b.gr g)
    have HI := Lib.hid (fun b (hb : b ∈ bs) => hp.i b hb)
    have HS := Lib.hid (fun V (g : Gr w V) => hp.s.gr g)
    have OK := Lib.hid POK
    have HIL := Lib.hid hi
    have HNB := Lib.hid hnb
    have HNS := Lib.hid hns
    have HA1 := Lib.hid ha1
    rw [hnb] at CK H1 ⊢
    rw [hns] at CK hs ⊢
    have FIN := Lib.hid (show acc1 ++ eL eB (bs.map Blk.pb) ++ eN ns ++ eL eS ss = eP ⟨bs.map Blk.pb, ss⟩ from by
      unfold eP
      simp only [List.length_map]
      rw [ha1, hnb, hns])
    rw [← FIN.out]
    have C1 := Lib.hid (fun V => show Calls Tryz.prog 36 #[.int .i64 nb] V (fun e w' => e = .returned (tv acc1) ∧ Gr V w') from by
      have h := sput_any nb ⟨by omega, by omega⟩ V
      rw [← ha1] at h
      exact h)
    clear hp hl POK hnb hns ha1 h0 hi
    have GX := Lib.hid (gr_al w (.cells #[.slice bA nb bc, .slice sA ns sc] 26))
    have X0 := Lib.hid (al_new w (.cells #[.slice bA nb bc, .slice sA ns sc] 26))
    obtain ⟨kx, hkx⟩ : ∃ m, w.heap.size = m := ⟨_, rfl⟩
    go_enter Tryz.func14, Tryz.ntmps14
    go_upto_region 1 with fail
    rw [hkx] at X0
    clear hkx
    generalize w.alloc (.cells #[.slice bA nb bc, .slice sA ns sc] 26) = W0 at *
    have BX := Lib.hid (fun V (g : Gr W0 V) => ce2 (gr_h g X0.out))
    obtain ⟨b0, b1⟩ := BX.out _ (gr_refl _)
    go_upto_region 4 with (go_at_call 31; refine (CK.out _ GX.out).mono ?_; rintro e W1 ⟨rfl, g1⟩; have G1 := Lib.hid (gr_of g1); clear g1)
    clear b0 b1
    obtain ⟨b0, b1⟩ := BX.out _ G1.out
    go_upto_region 5 with (go_at_call 36; refine (C1.out _).mono ?_; rintro e W3 ⟨rfl, g3⟩; have G3 := Lib.hid (G1.out.trans g3); clear g3)
    clear b0 b1 C1
    go_wp2
    go_loopw [5, 6] (fun u5 u6 V => ∃ (j : Nat) (a : T), j ≤ nb ∧ u5 = tv a ∧ u6 = .int .i64 j ∧ a.length ≤ 6 + j * 125000000 ∧ Hid (Gr W0 V ∧ a = acc1 ++ eL eB ((bs.take j).map Blk.pb))) (fun _ u _ => nb - (intOf u).toNat)
    case atStart => exact ⟨0, acc1, Nat.zero_le _, rfl, rfl, by omega, Lib.hid ⟨G3.out, by simp [eL]⟩⟩
    case round =>
      obtain ⟨j, a, hj, rfl, rfl, hal, HW⟩ := hrel
      have hjm : j * 125000000 ≤ 250000000000 := by omega
      obtain ⟨b0, b1⟩ := BX.out _ HW.out.1
      by_cases hlt : j < nb
      · obtain ⟨x, hx⟩ : ∃ x, bs[j]? = some x := ⟨_, List.getElem?_eq_getElem (by rw [HNB.out]; exact hlt)⟩
        have hxi : bs[j]'(by rw [HNB.out]; exact hlt) = x := by rw [List.getElem?_eq_getElem (by rw [HNB.out]; exact hlt)] at hx; exact Option.some.inj hx
        obtain ⟨ab, a1, hA, ha, hab, c0, c1, c2⟩ := (HB.out _ (GX.out.trans HW.out.1)).blk (k := j) (by rw [HNB.out]; exact hlt)
        rw [hxi] at c0 c1 c2
        have hxm := List.mem_of_getElem? hx
        have BO := Lib.hid (show BOk x.pb ∧ ∀ y ∈ x.ins, y.name.length ≤ 100 from ⟨OK.out.1.b _ (List.mem_map.2 ⟨x, hxm, rfl⟩), OK.out.2.1 x hxm⟩)
        have hxl : x.ins.length ≤ 1000000 := HIL.out x hxm
        have RX := Lib.hid (fun V (g : Gr w V) => (HI.out x hxm).gr g)
        obtain ⟨xc, xp, xA, xC, xL⟩ := x
        simp only at c0 c1 c2 hxl
        obtain ⟨xn, hxn⟩ : ∃ n, xL.length = n := ⟨_, rfl⟩
        rw [hxn] at c2 hxl
        have HXN := Lib.hid hxn
        obtain ⟨pv, hpv⟩ : ∃ pv : Int, pv = if xp then 1 else 0 := ⟨_, rfl⟩
        have pok : nOk pv := by rw [hpv]; exact ⟨by split <;> omega, by split <;> omega⟩
        have HPV := Lib.hid hpv
        obtain ⟨a0, ha0⟩ : ∃ z, z = a ++ eN xc ++ eN pv ++ eN xn := ⟨_, rfl⟩
        have q0 : a0.length ≤ a.length + 18 := by
          have h1 := eN_len (show nOk xc from BO.out.1.cap)
          have h2 := eN_len pok
          have h3 := eN_len (show nOk (xn : Int) from ⟨by omega, by omega⟩)
          rw [ha0]
          simp only [List.length_append]
          omega
        have HA0 := Lib.hid ha0
        have NEXT := Lib.hid (fun (b : T) (hb : b = a0 ++ eL eI xL) => show b = acc1 ++ eL eB ((bs.take (j + 1)).map Blk.pb) ∧ b.length ≤ a.length + 125000000 from by
          have e1 : eB (Blk.pb ⟨xc, xp, xA, xC, xL⟩) = eN xc ++ eN pv ++ eN xn ++ eL eI xL := by
            unfold eB Blk.pb
            simp only
            rw [hpv, hxn]
          have e2 := eB_len BO.out.1 BO.out.2
          have e3 : b = a ++ eB (Blk.pb ⟨xc, xp, xA, xC, xL⟩) := by rw [hb, ha0, e1]; simp only [List.append_assoc]
          refine ⟨?_, by rw [e3, List.length_append]; omega⟩
          rw [e3, HW.out.2, List.append_assoc, List.map_take, List.map_take, eL_take (x := Blk.pb ⟨xc, xp, xA, xC, xL⟩) (by rw [List.getElem?_map, hx]; rfl)])
        have z1 := eN_len (show nOk xc from BO.out.1.cap)
        have z2 := eN_len pok
        have z3 := eN_len (show nOk (xn : Int) from ⟨by omega, by omega⟩)
        have C1 := sput_any xc BO.out.1.cap
        have C2 := sput_any pv pok
        have C3 := sput_any xn ⟨by omega, by omega⟩
        obtain ⟨t1, ht1⟩ : ∃ t, eN xc = t := ⟨_, rfl⟩
        obtain ⟨t2, ht2⟩ : ∃ t, eN pv = t := ⟨_, rfl⟩
        obtain ⟨t3, ht3⟩ : ∃ t, eN xn = t := ⟨_, rfl⟩
        rw [ht1] at z1 C1 ha0
        rw [ht2] at z2 C2 ha0
        rw [ht3] at z3 C3 ha0
        have P1 := Lib.hid C1
        have P2 := Lib.hid C2
        have P3 := Lib.hid C3
        have HTA := Lib.hid (show (⟨a.toArray⟩ : ByteArray) ++ ⟨t1.toArray⟩ ++ ⟨t2.toArray⟩ ++ ⟨t3.toArray⟩ = ⟨a0.toArray⟩ from by rw [bytes_appE, bytes_appE, bytes_appE, ha0])
        have z0 : a.length ≤ 250000000006 := by omega
        have f1 := nogrow (show a.length + t1.length ≤ 9223372036854775807 from by omega)
        have f2 := nogrow (show a.length + t1.length + t2.length ≤ 9223372036854775807 from by omega)
        have f3 := nogrow (show a.length + t1.length + t2.length + t3.length ≤ 9223372036854775807 from by omega)
        have F := Lib.hid (And.intro f1 (And.intro f2 f3))
        clear C1 C2 C3 ht1 ht2 ht3 f1 f2 f3
        subst hA
        clear hx hxi hxm hxn ha0 pok
        go_upto_region 9 with fail
        have GB := Lib.hid (gr_al wr (.cells #[.int .i64 xc, .bool xp, .slice xA xn xC] 69))
        have YH := Lib.hid (al_new wr (.cells #[.int .i64 xc, .bool xp, .slice xA xn xC] 69))
        obtain ⟨ky, hky⟩ : ∃ k, wr.heap.size = k := ⟨_, rfl⟩
        rw [hky] at YH ⊢
        clear c0 c1 c2 hab hky b0 b1
        have GB0 := Lib.hid (HW.out.1.trans GB.out)
        generalize wr.alloc (.cells #[.int .i64 xc, .bool xp, .slice xA xn xC] 69) = W4 at *
        have BY := Lib.hid (fun V (g : Gr W4 V) => (show V.cell? ⟨ky, 0, none⟩ = some (.int .i64 xc) ∧ V.cell? ⟨ky, 1, none⟩ = some (.bool xp) ∧ V.cell? ⟨ky, 2, none⟩ = some (.slice xA xn xC) from by
          have h2 := gr_h g YH.out
          exact ⟨by rw [Lib.cell_of_heap h2]; rfl, by rw [Lib.cell_of_heap h2]; rfl, by rw [Lib.cell_of_heap h2]; rfl⟩))
        obtain ⟨d0, d1, d2⟩ := BY.out W4 (gr_refl _)
        have e1 := HPV.out
        cases xp
        all_goals
          simp only [if_true, if_false, Bool.false_eq_true] at e1
          rw [e1] at P2
          clear e1
          go_upto_region 12 with fail
          obtain ⟨f1, f2, f3⟩ := F.out
          go_region_held3 (fun V => V.cell? ⟨ky, 0, none⟩ = some (.int .i64 xc) ∧ V.cell? ⟨ky, 2, none⟩ = some (.slice xA xn xC)) (first | with_reducible exact ⟨(BY.out _ GV3.out).1, (BY.out _ GV3.out).2.2⟩ | with_reducible exact ⟨(BY.out _ GV2.out).1, (BY.out _ GV2.out).2.2⟩ | with_reducible exact ⟨(BY.out _ GV1.out).1, (BY.out _ GV1.out).2.2⟩ | with_reducible exact ⟨(BY.out _ (gr_drew _)).1, (BY.out _ (gr_drew _)).2.2⟩ | go_keep) (first | (go_at_call 36; (with_reducible refine (P1.out _).mono ?_); rintro e v1 ⟨rfl, g⟩; have GV1 := Lib.hid (show Gr W4 v1 from (gr_drew _).trans g); clear g) | (go_at_call 36; (with_reducible refine (P2.out _).mono ?_); rintro e v2 ⟨rfl, g⟩; have GV2 := Lib.hid (show Gr W4 v2 from GV1.out.trans g); clear g) | (go_at_call 36; (with_reducible refine (P3.out _).mono ?_); rintro e v3 ⟨rfl, g⟩; have GV3 := Lib.hid (show Gr W4 v3 from GV2.out.trans g); clear g))
          rw [HTA.out]
          have G5 := Lib.hid (GB0.out.trans GV3.out)
          have BY5 := Lib.hid (fun V (g : Gr v3 V) => BY.out V (GV3.out.trans g))
          have GB5 := Lib.hid (GB.out.trans GV3.out)
          clear HTA P1 P2 P3 d0 d1 d2 f1 f2 f3 F BY YH GB GV1 GV2 GV3 GB0 z1 z2 z3
          generalize v3 = W5 at *
          go_wp2
          go_loopw [5, 9] (fun u5 u6 V => ∃ (k : Nat) (a : T), k ≤ xn ∧ u5 = tv a ∧ u6 = .int .i64 k ∧ a.length ≤ 250000000024 + k * 140 ∧ Hid (Gr W5 V ∧ a = a0 ++ eL eI (xL.take k))) (fun _ u _ => xn - (intOf u).toNat)
          case atStart => exact ⟨0, a0, Nat.zero_le _, rfl, rfl, by omega, Lib.hid ⟨gr_refl _, by simp [eL]⟩⟩
          case round =>
            obtain ⟨k, b, hk, rfl, rfl, hbl, HV⟩ := hrel
            obtain ⟨-, -, d2⟩ := BY5.out _ HV.out.1
            by_cases hlt2 : k < xn
            · obtain ⟨y, hy⟩ : ∃ y, xL[k]? = some y := ⟨_, List.getElem?_eq_getElem (by rw [HXN.out]; exact hlt2)⟩
              have hyi : xL[k]'(by rw [HXN.out]; exact hlt2) = y := by rw [List.getElem?_eq_getElem (by rw [HXN.out]; exact hlt2)] at hy; exact Option.some.inj hy
              obtain ⟨yA, y1, hyA, hya, hyb, c0, c1, c2, c3⟩ := (RX.out _ (GX.out.trans (G5.out.trans HV.out.1))).ins (k := k) (by rw [HXN.out]; exact hlt2)
              rw [hyi] at c0 c1 c2 c3
              have hym := List.mem_of_getElem? hy
              have YO := Lib.hid (show IOk y ∧ y.name.length ≤ 100 from ⟨BO.out.1.i y hym, BO.out.2 y hym⟩)
              obtain ⟨yo, ya, yb, yn⟩ := y
              simp only at c0 c1 c2 c3
              obtain ⟨b1, hb1⟩ : ∃ z, z = b ++ eI ⟨yo, ya, yb, yn⟩ := ⟨_, rfl⟩
              obtain ⟨hs1, hs2⟩ := sgI_ok (show aOk ya from YO.out.1.a)
              have e1 : eI ⟨yo, ya, yb, yn⟩ = eN yo ++ eN (sgI ya) ++ eN yb ++ onePut yn := by rw [hs2]; rfl
              rw [e1] at hb1
              have q1 := eN_len (show nOk yo from YO.out.1.op)
              have q2 := eN_len hs1
              have q3 := eN_len (show nOk yb from YO.out.1.b)
              have q4 := put_len (show yn.length ≤ 100 from YO.out.2)
              have q5 : yn.length ≤ 100 := YO.out.2
              have C1 := sput_any yo YO.out.1.op
              have C2 := ssig_any ya YO.out.1.a
              have C3 := sput_any (sgI ya) hs1
              have C4 := sput_any yb YO.out.1.b
              have C5 := stext_any yn YO.out.1.n
              obtain ⟨t1, ht1⟩ : ∃ t, eN yo = t := ⟨_, rfl⟩
              obtain ⟨t2, ht2⟩ : ∃ t, eN (sgI ya) = t := ⟨_, rfl⟩
              obtain ⟨t3, ht3⟩ : ∃ t, eN yb = t := ⟨_, rfl⟩
              obtain ⟨t4, ht4⟩ : ∃ t, onePut yn = t := ⟨_, rfl⟩
              rw [ht1] at q1 C1 hb1
              rw [ht2] at q2 C3 hb1
              rw [ht3] at q3 C4 hb1
              rw [ht4] at q4 C5 hb1
              obtain ⟨sg, hsg⟩ : ∃ s, sgI ya = s := ⟨_, rfl⟩
              rw [hsg] at C2 C3
              have P1 := Lib.hid C1
              have P2 := Lib.hid C2
              have P3 := Lib.hid C3
              have P4 := Lib.hid C4
              have P5 := Lib.hid C5
              have HTA := Lib.hid (show (⟨b.toArray⟩ : ByteArray) ++ ⟨t1.toArray⟩ ++ ⟨t2.toArray⟩ ++ ⟨t3.toArray⟩ ++ ⟨t4.toArray⟩ = ⟨b1.toArray⟩ from by rw [bytes_appE, bytes_appE, bytes_appE, bytes_appE, hb1]; simp only [List.append_assoc])
              have l1 : b1.length ≤ b.length + 140 := by rw [hb1]; simp only [List.length_append]; omega
              have HB1 := Lib.hid (show b1 = a0 ++ eL eI (xL.take (k + 1)) from by
                rw [eL_take hy, hb1, HV.out.2, e1, ht1, ht2, ht3, ht4]
                simp only [List.append_assoc])
              have z0 : b.length ≤ 250140000024 := by omega
              have f1 := nogrow (show b.length + t1.length ≤ 9223372036854775807 from by omega)
              have f2 := nogrow (show b.length + t1.length + t2.length ≤ 9223372036854775807 from by omega)
              have f3 := nogrow (show b.length + t1.length + t2.length + t3.length ≤ 9223372036854775807 from by omega)
              have f4 := nogrow (show b.length + t1.length + t2.length + t3.length + t4.length ≤ 9223372036854775807 from by omega)
              have F := Lib.hid (And.intro f1 (And.intro f2 (And.intro f3 f4)))
              subst hyA
              clear C1 C2 C3 C4 C5 ht1 ht2 ht3 ht4 hsg hs1 hs2 hb1 hy hyi hym e1 f1 f2 f3 f4
              go_upto_region 17 with fail
              have YH := Lib.hid (al_new wr (.cells #[.int .i64 yo, .int .i64 ya, .int .i64 yb, .string ⟨yn.toArray⟩] 71))
              have GB := Lib.hid (gr_al wr (.cells #[.int .i64 yo, .int .i64 ya, .int .i64 yb, .string ⟨yn.toArray⟩] 71))
              obtain ⟨kz, hkz⟩ : ∃ k, wr.heap.size = k := ⟨_, rfl⟩
              rw [hkz] at YH ⊢
              clear c0 c1 c2 c3 hyb hkz d2
              have GB1 := Lib.hid (HV.out.1.trans GB.out)
              generalize wr.alloc (.cells #[.int .i64 yo, .int .i64 ya, .int .i64 yb, .string ⟨yn.toArray⟩] 71) = W6 at *
              have BZ := Lib.hid (fun V (g : Gr W6 V) => (show V.cell? ⟨kz, 0, none⟩ = some (.int .i64 yo) ∧ V.cell? ⟨kz, 1, none⟩ = some (.int .i64 ya) ∧ V.cell? ⟨kz, 2, none⟩ = some (.int .i64 yb) ∧ V.cell? ⟨kz, 3, none⟩ = some (.string ⟨yn.toArray⟩) from by
                have h2 := gr_h g YH.out
                exact ⟨by rw [Lib.cell_of_heap h2]; rfl, by rw [Lib.cell_of_heap h2]; rfl, by rw [Lib.cell_of_heap h2]; rfl, by rw [Lib.cell_of_heap h2]; rfl⟩))
              obtain ⟨d0, d1, d2, d3⟩ := BZ.out W6 (gr_refl _)
              obtain ⟨f1, f2, f3, f4⟩ := F.out
              go_region_held3 (fun V => V.cell? ⟨kz, 0, none⟩ = some (.int .i64 yo) ∧ V.cell? ⟨kz, 1, none⟩ = some (.int .i64 ya) ∧ V.cell? ⟨kz, 2, none⟩ = some (.int .i64 yb) ∧ V.cell? ⟨kz, 3, none⟩ = some (.string ⟨yn.toArray⟩)) (first | with_reducible exact (BZ.out _ GV5.out) | with_reducible exact (BZ.out _ GV4.out) | with_reducible exact (BZ.out _ GV3.out) | with_reducible exact (BZ.out _ GV2.out) | with_reducible exact (BZ.out _ GV1.out) | with_reducible exact (BZ.out _ (gr_drew _)) | go_keep) (first | (go_at_call 36; (with_reducible refine (P1.out _).mono ?_); rintro e v1 ⟨rfl, g⟩; have GV1 := Lib.hid (show Gr W6 v1 from (gr_drew _).trans g); clear g) | (go_at_call 37; (with_reducible refine (P2.out _).mono ?_); rintro e v2 ⟨rfl, g⟩; have GV2 := Lib.hid (show Gr W6 v2 from GV1.out.trans g); clear g) | (go_at_call 36; (with_reducible refine (P3.out _).mono ?_); rintro e v3 ⟨rfl, g⟩; have GV3 := Lib.hid (show Gr W6 v3 from GV2.out.trans g); clear g) | (go_at_call 36; (with_reducible refine (P4.out _).mono ?_); rintro e v4 ⟨rfl, g⟩; have GV4 := Lib.hid (show Gr W6 v4 from GV3.out.trans g); clear g) | (go_at_call 38; (with_reducible refine (P5.out _).mono ?_); rintro e v5 ⟨rfl, g⟩; have GV5 := Lib.hid (show Gr W6 v5 from GV4.out.trans g); clear g))
              rw [HTA.out]
              have G7 := Lib.hid (GB1.out.trans GV5.out)
              clear HTA P1 P2 P3 P4 P5 d0 d1 d2 d3 f1 f2 f3 f4 F BZ YH GB GV1 GV2 GV3 GV4 GV5 GB1
              generalize v5 = W7 at *
              go_wp2
              exact ⟨⟨k + 1, b1, by omega, by simp, by simp, by omega, Lib.hid ⟨G7.out, HB1.out⟩⟩, by simp [intOf]; omega⟩
            · obtain rfl : xn = k := by omega
              have HN := Lib.hid (NEXT.out b (by rw [HV.out.2, List.take_of_length_le (Nat.le_of_eq HXN.out)]))
              have G7 := Lib.hid (G5.out.trans HV.out.1)
              go_wp2
              exact ⟨⟨j + 1, b, by omega, rfl, by simp, by have := HN.out.2; omega, Lib.hid ⟨G7.out, HN.out.1⟩⟩, by simp [intOf]; omega⟩
      · obtain rfl : nb = j := by omega
        obtain ⟨acc2, ha2⟩ : ∃ z, z = a ++ eN ns := ⟨_, rfl⟩
        have z1 := eN_len (n := (ns : Int)) ⟨by omega, by omega⟩
        have l2 : acc2.length ≤ 250000000012 := by rw [ha2, List.length_append]; omega
        have HA2 := Lib.hid (show acc2 = acc1 ++ eL eB (bs.map Blk.pb) ++ eN ns from by
          have h := HW.out.2
          rw [List.take_of_length_le (Nat.le_of_eq HNB.out)] at h
          rw [ha2, h])
        have C2 := sput_any ns ⟨by omega, by omega⟩
        obtain ⟨t1, ht1⟩ : ∃ t, eN ns = t := ⟨_, rfl⟩
        rw [ht1] at z1 C2 ha2
        have P1 := Lib.hid C2
        have z0 : a.length ≤ 250000000006 := by omega
        have GWr := Lib.hid HW.out.1
        have f1 := nogrow (show a.length + t1.length ≤ 9223372036854775807 from by omega)
        have HTA := Lib.hid (show (⟨a.toArray⟩ : ByteArray) ++ ⟨t1.toArray⟩ = ⟨acc2.toArray⟩ from by rw [bytes_appE, ha2])
        clear C2 ht1 ha2 hal HW hlt
        go_upto_region 19 with (go_at_call 36; refine (P1.out _).mono ?_; rintro e W3 ⟨rfl, g⟩; have G5 := Lib.hid (GWr.out.trans g); clear g)
        rw [HTA.out]
        clear HTA P1 z0 z1 f1 b0 b1
        go_wp2
        go_loopw [5, 11] (fun u5 u6 V => ∃ (k : Nat) (a : T), k ≤ ns ∧ u5 = tv a ∧ u6 = .int .i64 k ∧ a.length ≤ 250000000012 + k * 118 ∧ Hid (Gr W0 V ∧ a = acc2 ++ eL eS (ss.take k))) (fun _ u _ => ns - (intOf u).toNat)
        case atStart => exact ⟨0, acc2, Nat.zero_le _, rfl, rfl, by omega, Lib.hid ⟨G5.out, by simp [eL]⟩⟩
        case round =>
          obtain ⟨k, b, hk, rfl, rfl, hbl, HV⟩ := hrel
          obtain ⟨b0, b1⟩ := BX.out _ HV.out.1
          by_cases hlt2 : k < ns
          · obtain ⟨x, hx⟩ : ∃ x, ss[k]? = some x := ⟨_, List.getElem?_eq_getElem (by rw [HNS.out]; exact hlt2)⟩
            have hxi : ss[k]'(by rw [HNS.out]; exact hlt2) = x := by rw [List.getElem?_eq_getElem (by rw [HNS.out]; exact hlt2)] at hx; exact Option.some.inj hx
            obtain ⟨sab, s1, hsA, hsa, hsab, c0, c1, c2⟩ := (HS.out _ (GX.out.trans HV.out.1)).stt (k := k) (by rw [HNS.out]; exact hlt2)
            rw [hxi] at c0 c1 c2
            have hxm := List.mem_of_getElem? hx
            have SO := Lib.hid (show SOk x ∧ x.pack.length ≤ 100 from ⟨OK.out.1.s _ hxm, OK.out.2.2 x hxm⟩)
            obtain ⟨sp, si, sb⟩ := x
            simp only at c0 c1 c2
            have q1 := put_len (show sp.length ≤ 100 from SO.out.2)
            have q2 := eN_len (show nOk si from SO.out.1.i)
            have q3 := eN_len (show nOk sb from SO.out.1.b)
            have q5 : sp.length ≤ 100 := SO.out.2
            obtain ⟨b3, hb3⟩ : ∃ z, z = b ++ onePut sp ++ eN si ++ eN sb := ⟨_, rfl⟩
            have C1 := stext_any sp SO.out.1.p
            have C2 := sput_any si SO.out.1.i
            have C3 := sput_any sb SO.out.1.b
            have NEXT := Lib.hid (show b3 = acc2 ++ eL eS (ss.take (k + 1)) from by
              rw [eL_take hx, hb3, HV.out.2]
              unfold eS
              simp only [List.append_assoc])
            obtain ⟨t1, ht1⟩ : ∃ t, onePut sp = t := ⟨_, rfl⟩
            obtain ⟨t2, ht2⟩ : ∃ t, eN si = t := ⟨_, rfl⟩
            obtain ⟨t3, ht3⟩ : ∃ t, eN sb = t := ⟨_, rfl⟩
            rw [ht1] at q1 C1 hb3
            rw [ht2] at q2 C2 hb3
            rw [ht3] at q3 C3 hb3
            have P1 := Lib.hid C1
            have P2 := Lib.hid C2
            have P3 := Lib.hid C3
            have HTA := Lib.hid (show (⟨b.toArray⟩ : ByteArray) ++ ⟨t1.toArray⟩ ++ ⟨t2.toArray⟩ ++ ⟨t3.toArray⟩ = ⟨b3.toArray⟩ from by rw [bytes_appE, bytes_appE, bytes_appE, hb3])
            have l3 : b3.length ≤ b.length + 118 := by rw [hb3]; simp only [List.length_append]; omega
            have z0 : b.length ≤ 250118000012 := by omega
            have f1 := nogrow (show b.length + t1.length ≤ 9223372036854775807 from by omega)
            have f2 := nogrow (show b.length + t1.length + t2.length ≤ 9223372036854775807 from by omega)
            have f3 := nogrow (show b.length + t1.length + t2.length + t3.length ≤ 9223372036854775807 from by omega)
            have F := Lib.hid (And.intro f1 (And.intro f2 f3))
            subst hsA
            clear C1 C2 C3 ht1 ht2 ht3 hb3 hx hxi hxm f1 f2 f3
            go_upto_region 23 with fail
            have YH := Lib.hid (al_new wr (.cells #[.string ⟨sp.toArray⟩, .int .i64 si, .int .i64 sb] 79))
            have GB := Lib.hid (gr_al wr (.cells #[.string ⟨sp.toArray⟩, .int .i64 si, .int .i64 sb] 79))
            obtain ⟨kz, hkz⟩ : ∃ k, wr.heap.size = k := ⟨_, rfl⟩
            rw [hkz] at YH ⊢
            clear c0 c1 c2 hsab hkz b0 b1
            have GB1 := Lib.hid (HV.out.1.trans GB.out)
            generalize wr.alloc (.cells #[.string ⟨sp.toArray⟩, .int .i64 si, .int .i64 sb] 79) = W6 at *
            have BZ := Lib.hid (fun V (g : Gr W6 V) => (show V.cell? ⟨kz, 0, none⟩ = some (.string ⟨sp.toArray⟩) ∧ V.cell? ⟨kz, 1, none⟩ = some (.int .i64 si) ∧ V.cell? ⟨kz, 2, none⟩ = some (.int .i64 sb) from by
              have h2 := gr_h g YH.out
              exact ⟨by rw [Lib.cell_of_heap h2]; rfl, by rw [Lib.cell_of_heap h2]; rfl, by rw [Lib.cell_of_heap h2]; rfl⟩))
            obtain ⟨d0, d1, d2⟩ := BZ.out W6 (gr_refl _)
            obtain ⟨f1, f2, f3⟩ := F.out
            go_region_held3 (fun V => V.cell? ⟨kz, 0, none⟩ = some (.string ⟨sp.toArray⟩) ∧ V.cell? ⟨kz, 1, none⟩ = some (.int .i64 si) ∧ V.cell? ⟨kz, 2, none⟩ = some (.int .i64 sb)) (first | with_reducible exact (BZ.out _ GV3.out) | with_reducible exact (BZ.out _ GV2.out) | with_reducible exact (BZ.out _ GV1.out) | with_reducible exact (BZ.out _ (gr_drew _)) | go_keep) (first | (go_at_call 38; (with_reducible refine (P1.out _).mono ?_); rintro e v1 ⟨rfl, g⟩; have GV1 := Lib.hid (show Gr W6 v1 from (gr_drew _).trans g); clear g) | (go_at_call 36; (with_reducible refine (P2.out _).mono ?_); rintro e v2 ⟨rfl, g⟩; have GV2 := Lib.hid (show Gr W6 v2 from GV1.out.trans g); clear g) | (go_at_call 36; (with_reducible refine (P3.out _).mono ?_); rintro e v3 ⟨rfl, g⟩; have GV3 := Lib.hid (show Gr W6 v3 from GV2.out.trans g); clear g))
            rw [HTA.out]
            have G7 := Lib.hid (GB1.out.trans GV3.out)
            clear HTA P1 P2 P3 d0 d1 d2 f1 f2 f3 F BZ YH GB GV1 GV2 GV3 GB1
            generalize v3 = W7 at *
            go_wp2
            exact ⟨⟨k + 1, b3, by omega, by simp, by simp, by omega, Lib.hid ⟨G7.out, NEXT.out⟩⟩, by simp [intOf]; omega⟩
          · obtain rfl : ns = k := by omega
            have EQ := Lib.hid (show b = acc1 ++ eL eB (bs.map Blk.pb) ++ eN ns ++ eL eS ss from by
              have h := HV.out.2
              rw [List.take_of_length_le (Nat.le_of_eq HNS.out)] at h
              rw [h, HA2.out])
            go_wp2
            go_ret2
            exact ⟨by rw [← EQ.out]; rfl, GX.out.trans HV.out.1⟩
  · unfold EnP
    rw [encV_bad h0]
    obtain ⟨er, her⟩ : ∃ z, errP p = z := ⟨_, rfl⟩
    rw [her] at CK h0 ⊢
    have e0 : (er != 0) = true := by simpa using h0
    unfold Prg.v at CK ⊢
    obtain ⟨bA, bc, bs, sA, sc, ss⟩ := p
    simp only at CK ⊢
    obtain ⟨nb, hnb⟩ : ∃ n, bs.length = n := ⟨_, rfl⟩
    obtain ⟨ns, hns⟩ : ∃ n, ss.length = n := ⟨_, rfl⟩
    rw [hnb, hns] at CK ⊢
    clear hp hl hnb hns her hi hs h0
    have GX := Lib.hid (gr_al w (.cells #[.slice bA nb bc, .slice sA ns sc] 26))
    have X0 := Lib.hid (al_new w (.cells #[.slice bA nb bc, .slice sA ns sc] 26))
    obtain ⟨kx, hkx⟩ : ∃ m, w.heap.size = m := ⟨_, rfl⟩
    go_enter Tryz.func14, Tryz.ntmps14
    go_upto_region 1 with fail
    rw [hkx] at X0
    clear hkx
    generalize w.alloc (.cells #[.slice bA nb bc, .slice sA ns sc] 26) = W0 at *
    obtain ⟨b0, b1⟩ := ce2 X0.out
    go_wp2_with (go_at_call 31; refine (CK.out _ GX.out).mono ?_; rintro e W1 ⟨rfl, g1⟩; have G1 := Lib.hid (gr_of g1); clear g1)
    go_ret2
    exact ⟨rfl, GX.out.trans G1.out⟩
end Go.Proofs.YtgboboljgcfggaaGreatDoor
