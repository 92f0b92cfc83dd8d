/- Walks: the reference's open (69), Open (30). -/
import Derived.Test.YtjlmhfdigoogfaaOpA
namespace Go.Proofs.Ytjlmhfdigoogfaa
open Go.RowKit Go.ChangeMaps

set_option maxRecDepth 100000 in
set_option maxHeartbeats 8000000 in
theorem ropen69 (n0 : Int) (x : Ty) (next : Int) (w : World) (hx : x.Rd w) (hck : ck x.er = 0) (hn0 : 0 ≤ n0 ∧ n0 ≤ 200) (hnx : 0 ≤ next ∧ next ≤ 1000000) : Calls Try.prog 69 #[.agg #[iv n0, iv x.kind, iv x.var, .slice x.A x.sub.length x.c], iv next] w (fun e w' => ∃ Y : Ty, e = .returned Y.v ∧ Y.Rd w' ∧ Y.er = (x.er.rep fun n => vr (opn n0 next n)) ∧ Gr w w') := by
  have HX := Lib.hid (fun V (g : Gr w V) => TRd.gr hx g)
  have CO := Lib.hid (fun V (g : Gr w V) (h : x.er.size ≤ 1000) => seen0 x V (TRd.gr hx g) h)
  have HQ := Lib.hid hck
  have HSZ := Lib.hid (show x.er.size ≤ 200 from (ck_cke hck).2)
  have HB := Lib.hid (show OB n0 x w w.heap.size (w.heap.size + 1) ((w.alloc (.cells #[iv n0, iv x.kind, iv x.var, .slice x.A x.sub.length x.c] 47)).alloc (.cells #[iv 0, iv 0, .slice none 0 0] 24)) from
    ⟨(gr_al _ _).trans (gr_al _ _), gr_h (gr_al _ _) (al_new _ _), al_at _ _ (by simp), by omega⟩)
  clear hx hck
  unfold Ty.v at *
  go_enter Try.func69, Try.ntmps69
  go_upto_region 1 with (fail)
  generalize hW0 : World.alloc (World.alloc w _) _ = W0 at *
  clear hW0
  obtain ⟨b0, hb0⟩ : ∃ b, w.heap.size = b := ⟨_, rfl⟩
  obtain ⟨b1, hb1⟩ : ∃ b, b0 + 1 = b := ⟨_, rfl⟩
  have HB := Lib.hid (show OB n0 x w b0 b1 W0 from by rw [← hb1, ← hb0]; exact HB.out)
  rw [hb0, hb1]
  clear hb0 hb1
  obtain ⟨x0, x1, x2, x3⟩ := cell4 HB.out.ht
  go_upto_region 2 with (first | (go_at_call 57; (with_reducible refine (CO.out _ HB.out.gr (by have := HSZ.out; omega)).mono ?_); rintro e w3 ⟨⟨row, rfl, ho⟩, g3⟩; have O3 := Lib.hid ho; have H3 := Lib.hid (HB.out.grow g3); clear ho g3))
  clear x0 x1 x2 x3 HB
  obtain ⟨all, hall⟩ : ∃ l, sn [] x.er = l := ⟨_, rfl⟩
  have HALL0 := Lib.hid hall
  have HAL := Lib.hid (show all.length ≤ 200 from by rw [← hall]; have := sn_len [] x.er; have := HSZ.out; simp at *; omega)
  have HRG := Lib.hid (show ∀ n ∈ all, 0 ≤ n ∧ n ≤ 999999 from fun n hn => by
    rw [← hall, mem_sn] at hn
    rcases hn with hn | hn
    · cases hn
    · exact vin_range (ck_cke HQ.out).1 hn)
  have o3 := O3.out
  rw [hall] at o3
  obtain ⟨A3, c3, rfl, hrd⟩ := o3.form NC_len
  have HRD := Lib.hid (fun V (g : Gr w3 V) => RD.gr hrd g)
  obtain ⟨NA, hNA⟩ : ∃ n, all.length = n := ⟨_, rfl⟩
  have HNA := Lib.hid hNA
  have hna : NA ≤ 200 := by rw [← hNA]; exact HAL.out
  rw [hNA]
  have F0 := Lib.hid (show OR 43 4 As.cs (w3.alloc (.cells #[] 43)) w3.heap.size (.slice (some ⟨w3.heap.size, 0, none⟩) 0 0) ([] : List As) from OR.empty (Nat.le_refl _))
  clear hall o3 O3 hNA hrd
  go_wp2
  go_loopw [6, 7] (fun v i V => ∃ k : Nat, k ≤ NA ∧ i = .int .i64 k ∧ Hid (Gr w3 V ∧ OR 43 4 As.cs V w3.heap.size v ((all.take k).map (mkA (opn n0 next))))) (fun _ i _ => NA - (intOf i).toNat)
  case atStart => exact ⟨0, Nat.zero_le _, rfl, Lib.hid ⟨gr_al _ _, F0.out⟩⟩
  case round =>
    obtain ⟨k, hk, rfl, HI⟩ := hrel
    obtain ⟨R6, rfl⟩ : ∃ W, W = wr := ⟨_, rfl⟩
    obtain ⟨sv, sc, rfl, -⟩ := HI.out.2.form As.cs_len
    by_cases hlt : k < NA
    · obtain ⟨xv, hxv⟩ : ∃ v, all[k]? = some v := ⟨_, List.getElem?_eq_getElem (by rw [HNA.out]; exact hlt)⟩
      obtain ⟨aR, rfl, r0⟩ := rd_num (HRD.out _ HI.out.1) hxv
      obtain ⟨xr1, xr2⟩ := HRG.out xv (List.mem_of_getElem? hxv)
      obtain ⟨LL, hLL⟩ : ∃ l, (all.take k).map (mkA (opn n0 next)) = l := ⟨_, rfl⟩
      have HLL := Lib.hid hLL
      rw [hLL] at HI ⊢
      have HL2 := Lib.hid (show LL.length ≤ 200 from by rw [← hLL, List.length_map, List.length_take]; have := HAL.out; omega)
      obtain ⟨x0, x1, x2, x3⟩ := cell4 (H3.out.grow HI.out.1).ht
      have hs1 : IntKind.i64.wrap (next + xv) = next + xv := IntWalk.i64_in _ (by omega)
      obtain ⟨z, hz⟩ : ∃ z, opn n0 next xv = z := ⟨_, rfl⟩
      have VA := Lib.hid (fun V => var_any z V)
      have R0 := Lib.hid r0
      have HO := Lib.hid (fun V (g : Gr R6 V) => HI.out.2.gr g)
      have HW := Lib.hid (show ∀ V : World, Gr R6 V → w3.heap.size ≤ V.heap.size from fun V g => Nat.le_trans HI.out.1.size g.size)
      have EL := Lib.hid (show (all.take (k + 1)).map (mkA (opn n0 next)) = LL ++ [⟨xv, yk 5 z⟩] from by
        rw [List.take_add_one, hxv, List.map_append, hLL]
        show LL ++ [mkA (opn n0 next) xv] = _
        unfold mkA
        rw [hz])
      by_cases hg : xv < n0
      · have hz1 : next + xv = z := by rw [← hz]; unfold opn; rw [if_pos hg]; exact hs1.symm
        have hg2 : ¬ n0 ≤ xv := by omega
        have hs3 : IntKind.i64.wrap (next + xv) = z := hs1.trans hz1
        clear hz hxv hLL hz1 hs1
        go_upto_region 7 with (fail)
        go_quiet (fail)
        go_upto_region 9 with (fail)
        obtain ⟨R7, GG, hR7⟩ : ∃ R7, Gr R6 R7 ∧ World.drewN R6 _ = R7 := ⟨_, gr_drewN _ _, rfl⟩
        rw [hR7]
        clear hR7
        have g7 := GG
        have r7 := gr_c g7 R0.out
        have R0 := Lib.hid r7
        have G0 := Lib.hid g7
        clear GG g7 r0
        go_region_law (first | (go_simp; go_at_call 26; refine (VA.out _).mono ?_; rintro e w6 ⟨rfl, g6⟩; have g7 : Gr R7 w6 := (gr_drew _).trans g6; have r6 := gr_c g7 R0.out; have G6 := Lib.hid (G0.out.trans g7); clear g6 g7) | (refine step_app (α := As) (cs := As.cs) 27 As.cs_len As.cell1 Try.underlying27 info43 rfl (by decide) (by decide) rfl (.tmp 39) (.tmp 47) rfl w3.heap.size (v := .slice sv LL.length sc) (L := LL) (by simp [Act.eval]) (HO.out _ (G6.out.trans (gr_al _ _))) (A := some ⟨w6.heap.size, 0, none⟩) (M := [⟨xv, yk 5 z⟩]) (m := 1) (c := 1) rfl (by simp [Act.eval]) (rd_cells (t := 43) As.cs_len (al_new _ _)) (by simp) (by have := HL2.out; simp; omega) (HW.out _ (G6.out.trans (gr_al _ _))) ?_; intro v7 w7 o7 g7 b7; have O7 := Lib.hid o7; have G7 := Lib.hid (OR.grow (HI.out.1.trans (G6.out.trans (gr_al _ _))) (HO.out _ (G6.out.trans (gr_al _ _))) (Nat.le_refl _) g7); clear o7 g7 b7))
        all_goals go_wp2
        all_goals exact ⟨⟨k + 1, hlt, by simp, Lib.hid ⟨G7.out, by rw [EL.out]; exact O7.out⟩⟩, by simp [intOf]; omega⟩
      · have hz1 : xv - n0 = z := by rw [← hz]; unfold opn; rw [if_neg hg]; exact (IntWalk.i64_in _ (by omega)).symm
        have hs2 : IntKind.i64.wrap (xv - n0) = z := by rw [← hz1]; exact IntWalk.i64_in _ (by omega)
        have hg2 : n0 ≤ xv := by omega
        clear hz hxv hLL hz1 hg
        go_upto_region 7 with (fail)
        go_quiet (fail)
        go_upto_region 8 with (fail)
        go_quiet (fail)
        go_upto_region 9 with (fail)
        obtain ⟨R7, GG, hR7⟩ : ∃ R7, Gr R6 R7 ∧ World.drewN (World.drewN R6 _) _ = R7 := ⟨_, (gr_drewN _ _).trans (gr_drewN _ _), rfl⟩
        rw [hR7]
        clear hR7
        have g7 := GG
        have r7 := gr_c g7 R0.out
        have R0 := Lib.hid r7
        have G0 := Lib.hid g7
        clear GG g7 r0
        go_region_law (first | (go_simp; go_at_call 26; refine (VA.out _).mono ?_; rintro e w6 ⟨rfl, g6⟩; have g7 : Gr R7 w6 := (gr_drew _).trans g6; have r6 := gr_c g7 R0.out; have G6 := Lib.hid (G0.out.trans g7); clear g6 g7) | (refine step_app (α := As) (cs := As.cs) 27 As.cs_len As.cell1 Try.underlying27 info43 rfl (by decide) (by decide) rfl (.tmp 39) (.tmp 47) rfl w3.heap.size (v := .slice sv LL.length sc) (L := LL) (by simp [Act.eval]) (HO.out _ (G6.out.trans (gr_al _ _))) (A := some ⟨w6.heap.size, 0, none⟩) (M := [⟨xv, yk 5 z⟩]) (m := 1) (c := 1) rfl (by simp [Act.eval]) (rd_cells (t := 43) As.cs_len (al_new _ _)) (by simp) (by have := HL2.out; simp; omega) (HW.out _ (G6.out.trans (gr_al _ _))) ?_; intro v7 w7 o7 g7 b7; have O7 := Lib.hid o7; have G7 := Lib.hid (OR.grow (HI.out.1.trans (G6.out.trans (gr_al _ _))) (HO.out _ (G6.out.trans (gr_al _ _))) (Nat.le_refl _) g7); clear o7 g7 b7))
        all_goals go_wp2
        all_goals exact ⟨⟨k + 1, hlt, by simp, Lib.hid ⟨G7.out, by rw [EL.out]; exact O7.out⟩⟩, by simp [intOf]; omega⟩
    · obtain rfl : NA = k := by omega
      have h2 := HI.out.2
      rw [List.take_of_length_le (by rw [HNA.out]; exact Nat.le_refl _)] at h2 ⊢
      obtain ⟨LL, hLL⟩ : ∃ l, all.map (mkA (opn n0 next)) = l := ⟨_, rfl⟩
      have HLL := Lib.hid hLL
      rw [hLL] at h2 ⊢
      obtain ⟨A9, c9, e9, hr9⟩ := h2.form As.cs_len
      obtain ⟨rfl, -, rfl⟩ := Value.slice.inj e9
      have HCB := Lib.hid (H3.out.grow HI.out.1)
      have RA := Lib.hid (rapply63 sv sc LL R6 ⟨hr9, fun y hy => by
        rw [← hLL] at hy
        obtain ⟨z, -, rfl⟩ := List.mem_map.1 hy
        exact TRd.nil _⟩ (by rw [← hLL, List.length_map]; have := HAL.out; omega) x R6 (gr_refl _) (HX.out _ HCB.out.gr) (ck_cke HQ.out).1 (by have := HSZ.out; omega))
      rw [← HLL.out, mkA_er, ← HALL0.out, rep_map, HALL0.out, HLL.out] at RA
      have HKZ := Lib.hid (show KZ (x.er.rep fun n => vr (opn n0 next n)) from kz_rep (fun n => kz_vr _) (kz_good (ck_cke HQ.out).1))
      obtain ⟨x0, x1, x2, x3⟩ := cell4 HCB.out.ht
      unfold Ty.v at RA
      have hlo := HCB.out.lo
      clear h2 hLL e9 hr9
      go_wp2_with (first | (go_at_call 63; (with_reducible refine RA.out.mono ?_); rintro e w5 ⟨⟨r, rfl, Y, rfl, tr⟩, g5⟩; unfold Ty.v; have T5 := Lib.hid tr; have H5 := Lib.hid (HCB.out.grow g5); obtain ⟨⟨z0, z1, z2⟩, fz⟩ := cell3 H5.out.hz; have f0 := fz 0; have f1 := fz 1; have f2 := fz 2; clear tr g5 fz))
      refine bodyPost_ret (results_cell_row (P := Try.prog) rfl _ _ b1 _ _ _ _ rfl (set3 (a' := iv Y.kind) (b' := iv Y.var) (c' := .slice Y.A Y.sub.length Y.c) H5.out.hz) rfl rfl rfl) rfl ?_
      have h := opp_ok (m := 0) H5.out.hz H5.out.gr hlo T5.out.1 T5.out.2.2 HKZ.out
      obtain ⟨q, e, r, he, g⟩ := h
      refine ⟨q, ?_, r, he, g⟩
      simpa using e
theorem opp_put {w V : World} {b : Nat} {Y : Ty} {t : PT} {m : Int} (hz : V.heap[b]? = some (.cells #[iv 0, iv 0, .slice none 0 0] 24 (0, 0))) (g : Gr w V) (hb : w.heap.size ≤ b) (hY : Y.Rd V) (he : Y.er = t) (hk : KZ t) : OPP w ((t, m), 0) (.returned (.tuple #[.agg #[iv Y.kind, iv Y.var, .slice Y.A Y.sub.length Y.c], iv m, iv 0])) (((V.setCell ⟨b, 0, none⟩ (iv Y.kind)).setCell ⟨b, 1, none⟩ (iv Y.var)).setCell ⟨b, 2, none⟩ (.slice Y.A Y.sub.length Y.c)) := opp_ok hz g hb hY he hk
set_option maxRecDepth 100000 in
set_option maxHeartbeats 8000000 in
theorem ropen_any (n0 : Int) (x : Ty) (next : Int) (w : World) (hx : x.Rd w) : Calls Try.prog 30 #[.agg #[iv n0, iv x.kind, iv x.var, .slice x.A x.sub.length x.c], iv next] w (OPP w (opE n0 x.er next)) := by
  have CK := Lib.hid (fun V (g : Gr w V) => show Calls Try.prog 18 #[.agg #[iv x.kind, iv x.var, .slice x.A x.sub.length x.c]] V (fun e w' => e = .returned (iv (ck x.er)) ∧ Gr V w') from rCheck_any x V (TRd.gr hx g))
  have CV := Lib.hid (fun V (g : Gr w V) => show Calls Try.prog 68 #[.agg #[iv n0, iv x.kind, iv x.var, .slice x.A x.sub.length x.c]] V (fun e w' => e = .returned (.bool (sval n0 x.er)) ∧ Gr V w') from rvalid_any ⟨n0, x⟩ V (TRd.gr hx g))
  have HX := Lib.hid (fun V (g : Gr w V) => TRd.gr hx g)
  have HR := Lib.hid (show opE n0 x.er next = if ck x.er ≠ 0 then ((.mk 0 0 [], 0), ck x.er) else if sval n0 x.er = false then ((.mk 0 0 [], 0), 1) else if next < 0 ∨ 999799 < next then ((.mk 0 0 [], 0), 2)
  else ((x.er.rep fun n => vr (opn n0 next n), next + n0), 0) from rfl)
  obtain ⟨R, hR⟩ : ∃ R, opE n0 x.er next = R := ⟨_, rfl⟩
  rw [hR] at HR ⊢
  obtain ⟨q, hq⟩ : ∃ q, ck x.er = q := ⟨_, rfl⟩
  have HQ := Lib.hid hq
  obtain ⟨sv, hsv⟩ : ∃ s, sval n0 x.er = s := ⟨_, rfl⟩
  have HSV := Lib.hid hsv
  simp only [hq, hsv] at CK CV HR
  have GB := Lib.hid (show OB n0 x w w.heap.size (w.heap.size + 1) ((w.alloc (.cells #[iv n0, iv x.kind, iv x.var, .slice x.A x.sub.length x.c] 47)).alloc (.cells #[iv 0, iv 0, .slice none 0 0] 24)) from
    ⟨(gr_al _ _).trans (gr_al _ _), gr_h (gr_al _ _) (al_new _ _), al_at _ _ (by simp), by omega⟩)
  clear hx hR hq hsv
  go_enter Try.func30, Try.ntmps30
  go_upto_region 1 with (fail)
  generalize hW0 : World.alloc (World.alloc w _) _ = W0 at *
  clear hW0
  obtain ⟨b0, hb0⟩ : ∃ b, w.heap.size = b := ⟨_, rfl⟩
  obtain ⟨b2, hb2⟩ : ∃ b, b0 + 1 = b := ⟨_, rfl⟩
  have HB := Lib.hid (show OB n0 x w b0 b2 W0 from by rw [← hb2, ← hb0]; exact GB.out)
  rw [hb0, hb2]
  clear hb0 hb2 GB
  have hlo := HB.out.lo
  obtain ⟨x0, x1, x2, x3⟩ := cell4 HB.out.ht
  by_cases hq0 : q = 0
  · subst hq0
    rw [if_neg (by simp)] at HR
    go_upto_region 4 with (first | (go_at_call 18; (with_reducible refine (CK.out _ HB.out.gr).mono ?_); rintro e w1 ⟨rfl, g1⟩; have H1 := Lib.hid (HB.out.grow g1); clear g1))
    clear x0 x1 x2 x3
    obtain ⟨x0, x1, x2, x3⟩ := cell4 H1.out.ht
    cases sv with
    | false =>
      obtain rfl : ((.mk 0 0 [], 0), 1) = R := by have := HR.out; rw [if_pos rfl] at this; exact this.symm
      clear HR
      go_wp2_with (first | (go_at_call 68; (with_reducible refine (CV.out _ H1.out.gr).mono ?_); rintro e w2 ⟨rfl, g2⟩; have H2 := Lib.hid (H1.out.grow g2); obtain ⟨⟨z0, z1, z2⟩, fz⟩ := cell3 H2.out.hz; have f0 := fz 0; have f1 := fz 1; have f2 := fz 2; clear g2 fz))
      refine bodyPost_ret (results_row_tmp2 (P := Try.prog) rfl _ _ b2 _ _ _ _ rfl rfl rfl (set3 H2.out.hz) rfl rfl rfl) rfl ?_
      exact opp_bad 1 H2.out.gr hlo
    | true =>
      rw [if_neg (by simp)] at HR
      go_upto_region 6 with (first | (go_at_call 68; (with_reducible refine (CV.out _ H1.out.gr).mono ?_); rintro e w2 ⟨rfl, g2⟩; have H2 := Lib.hid (H1.out.grow g2); obtain ⟨⟨z0, z1, z2⟩, fz⟩ := cell3 H2.out.hz; have f0 := fz 0; have f1 := fz 1; have f2 := fz 2; clear g2 fz))
      clear x0 x1 x2 x3
      by_cases hn1 : next < 0
      · obtain rfl : ((.mk 0 0 [], 0), 2) = R := by have := HR.out; rw [if_pos (.inl hn1)] at this; exact this.symm
        clear HR
        go_wp2
        refine bodyPost_ret (results_row_tmp2 (P := Try.prog) rfl _ _ b2 _ _ _ _ rfl rfl rfl (set3 H2.out.hz) rfl rfl rfl) rfl ?_
        exact opp_bad 2 H2.out.gr hlo
      · by_cases hn2 : 999799 < next
        · obtain rfl : ((.mk 0 0 [], 0), 2) = R := by have := HR.out; rw [if_pos (.inr hn2)] at this; exact this.symm
          clear HR
          go_wp2
          refine bodyPost_ret (results_row_tmp2 (P := Try.prog) rfl _ _ b2 _ _ _ _ rfl rfl rfl (set3 H2.out.hz) rfl rfl rfl) rfl ?_
          exact opp_bad 2 H2.out.gr hlo
        · obtain rfl : ((x.er.rep fun n => vr (opn n0 next n), next + n0), 0) = R := by have := HR.out; rw [if_neg (by omega)] at this; exact this.symm
          have hck := ck_cke HQ.out
          obtain ⟨s1, s2⟩ := sval_bd HSV.out
          have RP := Lib.hid (fun V (g : Gr w2 V) => ropen69 n0 x next V (HX.out _ (H2.out.gr.trans g)) HQ.out ⟨s1, s2⟩ ⟨by omega, by omega⟩)
          have HKZ := Lib.hid (show KZ (x.er.rep fun n => vr (opn n0 next n)) from kz_rep (fun n => kz_vr _) (kz_good hck.1))
          have hsum : IntKind.i64.wrap (next + n0) = next + n0 := IntWalk.i64_in _ (by omega)
          have HSUM := Lib.hid hsum
          clear hsum HR hck HSV HQ CK CV z0 z1 z2 f0 f1 f2
          go_upto_region 8 with (fail)
          obtain ⟨x0, x1, x2, x3⟩ := cell4 H2.out.ht
          obtain ⟨⟨z0, z1, z2⟩, fz⟩ := cell3 H2.out.hz
          have f0 := fz 0
          have f1 := fz 1
          have f2 := fz 2
          have hsum := HSUM.out
          have d02 : b0 ≠ b2 := fun h => by subst h; have := H2.out.ht.symm.trans H2.out.hz; simp at this
          have d20 : b2 ≠ b0 := fun h => d02 h.symm
          clear fz
          go_region_law (first | (go_simp; go_at_call 69; (with_reducible refine (RP.out _ (gr_drew _)).mono ?_); rintro e w5 ⟨Y, rfl, hY, he, g5⟩; unfold Ty.v; have T5 := Lib.hid (And.intro hY he); have G5 := Lib.hid (show Gr w2 w5 from (gr_drew _).trans g5); have H5 := Lib.hid (H2.out.grow G5.out); obtain ⟨a0, a1, a2, a3⟩ := cell4 H5.out.ht; obtain ⟨⟨c0, c1, c2⟩, fz⟩ := cell3 H5.out.hz; have e0 := fz 0; have e1 := fz 1; have e2 := fz 2; clear g5 fz hY he))
          all_goals go_wp2
          all_goals refine bodyPost_ret (results_row_tmp2 (P := Try.prog) (x := iv (next + n0)) (y := iv 0) rfl _ _ b2 _ _ _ _ rfl rfl rfl (set3 (a' := iv Y.kind) (b' := iv Y.var) (c' := .slice Y.A Y.sub.length Y.c) H5.out.hz) rfl rfl rfl) rfl ?_
          all_goals exact opp_ok H5.out.hz H5.out.gr hlo T5.out.1 T5.out.2 HKZ.out
  · have hb : (q == 0) = false := by simpa using hq0
    have hb2 : (q != 0) = true := by simpa using hq0
    obtain rfl : ((.mk 0 0 [], 0), q) = R := by have := HR.out; rw [if_pos hq0] at this; exact this.symm
    go_wp2_with (first | (go_at_call 18; (with_reducible refine (CK.out _ HB.out.gr).mono ?_); rintro e w1 ⟨rfl, g1⟩; have H1 := Lib.hid (HB.out.grow g1); obtain ⟨⟨z0, z1, z2⟩, fz⟩ := cell3 H1.out.hz; have f0 := fz 0; have f1 := fz 1; have f2 := fz 2; clear g1 fz))
    refine bodyPost_ret (results_row_tmp2 (P := Try.prog) rfl _ _ b2 _ _ _ _ rfl rfl rfl (set3 H1.out.hz) rfl rfl rfl) rfl ?_
    exact opp_bad q H1.out.gr hlo
end Go.Proofs.Ytjlmhfdigoogfaa
