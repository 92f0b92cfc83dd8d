/- Walks: the reference's Close (28). -/
import Derived.Test.YtjlmhfdigoogfaaClD
namespace Go.Proofs.Ytjlmhfdigoogfaa
open Go.RowKit Go.ChangeMaps

set_option maxRecDepth 100000 in
set_option maxHeartbeats 8000000 in
theorem rclose_any (x : Ty) (Ak : Option Addr) (ca : Nat) (keep : List Int) (w : World) (hx : x.Rd w) (hK : RD 1 NC w Ak keep) (hkl : keep.length ≤ 1000000) : Calls Try.prog 28 #[x.v, .slice Ak keep.length ca] w (SEP w (clE keep x.er)) := by
  have CK := Lib.hid (fun V (g : Gr w V) => rCheck_any x V (TRd.gr hx g))
  have HX := Lib.hid (fun V (g : Gr w V) => TRd.gr hx g)
  have HKP := Lib.hid (fun V (g : Gr w V) => hK.gr g)
  have CO := Lib.hid (fun V (g : Gr w V) (h : x.er.size ≤ 1000) => seen0 x V (TRd.gr hx g) h)
  have CH := Lib.hid (fun n V (g : Gr w V) => has_any Ak ca keep n V (hK.gr g) hkl)
  obtain ⟨NK, hNK⟩ : ∃ n, keep.length = n := ⟨_, rfl⟩
  rw [hNK] at hkl CH
  rw [hNK]
  have HB := Lib.hid (CB.of x w)
  have HR := Lib.hid (show clE keep x.er = if ck x.er ≠ 0 then ((0, .mk 0 0 []), ck x.er)
  else if (sn [] x.er).any (fun n => decide (n ∈ keep ∧ 999999 < n + ((owns keep x.er).length : Int))) then ((0, .mk 0 0 []), 2)
  else ((((owns keep x.er).length : Int), x.er.rep fun n => vr (cln (owns keep x.er) n)), 0) from rfl)
  obtain ⟨R, hR⟩ : ∃ R, clE keep x.er = R := ⟨_, rfl⟩
  rw [hR] at HR ⊢
  obtain ⟨q, hq⟩ : ∃ q, ck x.er = q := ⟨_, rfl⟩
  have HQ := Lib.hid hq
  simp only [hq] at CK HR
  clear hx hK hNK hR hq
  unfold Ty.v at *
  go_enter Try.func28, Try.ntmps28
  go_upto_region 1 with (fail)
  generalize hW0 : World.alloc (World.alloc w _) _ = W0 at *
  clear hW0
  obtain ⟨b0, hb0⟩ : ∃ b, w.heap.size = b := ⟨_, rfl⟩
  obtain ⟨b1, hb1⟩ : ∃ b, b0 + 1 = b := ⟨_, rfl⟩
  have HB := Lib.hid (show CB x w b0 b1 W0 from by rw [← hb1, ← hb0]; exact HB.out)
  rw [hb0, hb1]
  clear hb0 hb1
  obtain ⟨⟨x0, x1, x2⟩, -⟩ := cell3 HB.out.ht
  by_cases hq0 : q = 0
  · subst hq0
    rw [if_neg (by simp)] at HR
    have hck := ck_cke HQ.out
    have HSZ := Lib.hid (show x.er.size ≤ 200 from hck.2)
    clear hck
    go_upto_region 4 with (first | (go_at_call 18; (with_reducible refine (CK.out _ HB.out.gr).mono ?_); rintro e w1 ⟨rfl, g1⟩; have H1 := Lib.hid (HB.out.grow g1); clear g1))
    clear x0 x1 x2
    obtain ⟨⟨x0, x1, x2⟩, -⟩ := cell3 H1.out.ht
    go_upto_region 5 with (first | (go_at_call 57; (with_reducible refine (CO.out _ H1.out.gr (by have := HSZ.out; omega)).mono ?_); rintro e w3 ⟨⟨row, rfl, ho⟩, g3⟩; have O3 := Lib.hid ho; have H3 := Lib.hid (H1.out.grow g3); clear ho g3))
    clear x0 x1 x2 H1 HB
    obtain ⟨all, hall⟩ : ∃ l, sn [] x.er = l := ⟨_, rfl⟩
    have HALL0 := Lib.hid hall
    have HND := Lib.hid (show all.Nodup from by rw [← hall]; exact nodup_sn0 _)
    have HAL := Lib.hid (show all.length ≤ 200 from by rw [← hall]; have := sn_len [] x.er; have := HSZ.out; simp at *; omega)
    have HRG := Lib.hid (show ∀ n ∈ all, 0 ≤ n ∧ n ≤ 999999 from fun n hn => by
      rw [← hall, mem_sn] at hn
      rcases hn with hn | hn
      · cases hn
      · exact vin_range (ck_cke HQ.out).1 hn)
    have HOW := Lib.hid (show owns keep x.er = all.filter (fun n => decide (n ∉ keep)) from by unfold owns; rw [hall])
    have o3 := O3.out
    rw [hall] at o3 HR
    obtain ⟨A3, c3, rfl, hrd⟩ := o3.form NC_len
    have HRD := Lib.hid (fun V (g : Gr w3 V) => RD.gr hrd g)
    obtain ⟨NA, hNA⟩ : ∃ n, all.length = n := ⟨_, rfl⟩
    have HNA := Lib.hid hNA
    have hna : NA ≤ 200 := by rw [← hNA]; exact HAL.out
    rw [hNA]
    have E0 := Lib.hid (show OR 3 1 NC (w3.alloc (.cells #[] 3)) w3.heap.size (.slice (some ⟨w3.heap.size, 0, none⟩) 0 0) ([] : List Int) from OR.empty (Nat.le_refl _))
    clear hall o3 O3 hNA hrd
    go_wp2
    go_loopw [8, 9] (fun v i V => ∃ k : Nat, k ≤ NA ∧ i = .int .i64 k ∧ Hid (Gr w3 V ∧ OR 3 1 NC V w3.heap.size v ((all.take k).filter fun n => decide (n ∉ keep)))) (fun _ i _ => NA - (intOf i).toNat)
    case atStart => exact ⟨0, Nat.zero_le _, rfl, Lib.hid ⟨gr_al _ _, E0.out⟩⟩
    case round =>
      obtain ⟨k, hk, rfl, HI⟩ := hrel
      obtain ⟨ov, oc, rfl, -⟩ := HI.out.2.form NC_len
      by_cases hlt : k < NA
      · obtain ⟨n, hn⟩ : ∃ v, all[k]? = some v := ⟨_, List.getElem?_eq_getElem (by rw [HNA.out]; exact hlt)⟩
        obtain ⟨aR, rfl, r0⟩ := rd_num (HRD.out _ HI.out.1) hn
        have C65 := Lib.hid (CH.out n wr (H3.out.gr.trans HI.out.1))
        obtain ⟨bb, hbb⟩ : ∃ b, decide (n ∈ keep) = b := ⟨_, rfl⟩
        rw [hbb] at C65
        have HBB := Lib.hid hbb
        have HN := Lib.hid hn
        obtain ⟨ow, how⟩ : ∃ o, (all.take k).filter (fun n => decide (n ∉ keep)) = o := ⟨_, rfl⟩
        have HOO := Lib.hid how
        have HLO := Lib.hid (show ow.length ≤ 200 from by
          rw [← how]
          have h1 := List.length_filter_le (fun n => decide (n ∉ keep)) (all.take k)
          have h2 := HAL.out
          simp only [List.length_take] at h1
          omega)
        rw [how] at HI ⊢
        clear hn hbb how
        cases bb with
        | true =>
          have ST := Lib.hid (show (all.take (k + 1)).filter (fun n => decide (n ∉ keep)) = ow from by
            have := of_decide_eq_true HBB.out
            rw [List.take_add_one, HN.out, List.filter_append, HOO.out]; simp [this])
          go_wp2_with (first | (go_at_call 65; (with_reducible refine C65.out.mono ?_); rintro e w6 ⟨rfl, hw⟩; subst hw))
          exact ⟨⟨k + 1, hlt, by simp, Lib.hid ⟨HI.out.1, by rw [ST.out]; exact HI.out.2⟩⟩, by simp [intOf]; omega⟩
        | false =>
          have ST := Lib.hid (show (all.take (k + 1)).filter (fun n => decide (n ∉ keep)) = ow ++ [n] from by
            have := of_decide_eq_false HBB.out
            rw [List.take_add_one, HN.out, List.filter_append, HOO.out]; simp [this])
          have HO := Lib.hid (fun o : Obj => HI.out.2.alloc o)
          have HS := Lib.hid (show ∀ o : Obj, w3.heap.size ≤ (wr.alloc o).heap.size from fun o => by have := HI.out.1.size; simp; omega)
          go_wp2_with (first | (go_at_call 65; (with_reducible refine C65.out.mono ?_); rintro e w6 ⟨rfl, hw⟩; subst hw) | (at_builtin; refine wpList_appNP _ rfl (.tmp 36) (.tmp 41) rfl w3.heap.size rfl (HO.out _) (M := [n]) rfl rfl (rd_cells (t := 3) NC_len (al_new _ _)) (by simp) (by have := HLO.out; simp; omega) (HS.out _) ?_; intro v7 w7 o7 g7 b7; have O7 := Lib.hid o7; have G7 := Lib.hid g7; clear o7 g7 b7))
          exact ⟨⟨k + 1, hlt, by simp, Lib.hid ⟨OR.grow (HI.out.1.trans (gr_al _ _)) (HO.out _) (Nat.le_refl _) G7.out, by rw [ST.out]; exact O7.out⟩⟩, by simp [intOf]; omega⟩
      · obtain rfl : NA = k := by omega
        obtain ⟨W4, rfl⟩ : ∃ W, W = wr := ⟨_, rfl⟩
        have h2 := HI.out.2
        rw [List.take_of_length_le (by rw [HNA.out]; exact Nat.le_refl _), ← HOW.out] at h2 ⊢
        obtain ⟨ow, how⟩ : ∃ o, owns keep x.er = o := ⟨_, rfl⟩
        rw [how] at h2 HR HOW ⊢
        obtain ⟨A8, c8, e8, hr8⟩ := h2.form NC_len
        obtain ⟨rfl, -, rfl⟩ := Value.slice.inj e8
        have HR8 := Lib.hid (fun V (g : Gr W4 V) => RD.gr hr8 g)
        have G4 := Lib.hid HI.out.1
        have HOL := Lib.hid (show ow.length ≤ 200 from by rw [← how]; have := owns_len keep x.er; have := HSZ.out; omega)
        have HOD := Lib.hid (show ow.Nodup from by rw [HOW.out]; exact HND.out.filter _)
        obtain ⟨no, hno⟩ : ∃ n, ow.length = n := ⟨_, rfl⟩
        have HNO := Lib.hid hno
        have hno2 : no ≤ 200 := by rw [← hno]; exact HOL.out
        rw [hno] at HR ⊢
        have HKZ := Lib.hid (show KZ (x.er.rep fun n => vr (cln ow n)) from kz_rep (fun n => kz_vr _) (kz_good (ck_cke HQ.out).1))
        obtain ⟨t, ht⟩ : ∃ t, (x.er.rep fun n => vr (cln ow n)) = t := ⟨_, rfl⟩
        have HTT := Lib.hid ht
        rw [ht] at HKZ HR
        have HANY := Lib.hid (show ∀ (j : Nat) n, all[j]? = some n → 999999 < cln ow n → R = ((0, .mk 0 0 []), 2) from fun j n h1 h3 => by
          have hm := List.mem_of_getElem? h1
          have hr := HRG.out n hm
          have hin : n ∈ keep := by
            by_cases h : n ∈ keep
            · exact h
            · have h4 : n ∈ ow := by rw [HOW.out, List.mem_filter]; exact ⟨hm, by simpa using h⟩
              have := cln_in h4
              have := HOL.out
              omega
          have hout : n ∉ ow := fun h => by rw [HOW.out, List.mem_filter] at h; simpa [hin] using h.2
          have h5 := cln_out hout hr HOL.out
          have h := HR.out
          rw [if_pos (List.any_eq_true.2 ⟨n, hm, by simp [hin]; have := HNO.out; omega⟩)] at h
          exact h)
        have HALL := Lib.hid (show (∀ (j : Nat) n, j < NA → all[j]? = some n → cln ow n ≤ 999999) → R = (((no : Int), t), 0) from fun h1 => by
          have h := HR.out
          rw [if_neg ?_] at h
          · exact h
          · rw [List.any_eq_true]
            rintro ⟨n, hn, h2⟩
            obtain ⟨h3, h4⟩ := of_decide_eq_true h2
            obtain ⟨j, hjn⟩ := List.getElem?_of_mem hn
            have hout : n ∉ ow := fun h => by rw [HOW.out, List.mem_filter] at h; simpa [h3] using h.2
            have h5 := cln_out hout (HRG.out n hn) HOL.out
            have := HNO.out
            have h6 := h1 j n (by rw [← HNA.out]; exact (List.getElem?_eq_some_iff.1 hjn).1) hjn
            omega)
        have F0 := Lib.hid (show OR 43 4 As.cs (W4.alloc (.cells #[] 43)) W4.heap.size (.slice (some ⟨W4.heap.size, 0, none⟩) 0 0) ([] : List As) from OR.empty (Nat.le_refl _))
        clear h2 how e8 hr8 HI hlt hk hno ht HR
        go_wp2
        go_loopw [10, 11] (fun v i V => ∃ k : Nat, k ≤ NA ∧ i = .int .i64 k ∧ Hid (Gr W4 V ∧ OR 43 4 As.cs V W4.heap.size v ((all.take k).map (mkA (cln ow))) ∧ ∀ (j : Nat) n, j < k → all[j]? = some n → cln ow n ≤ 999999)) (fun _ i _ => NA - (intOf i).toNat)
        case atStart => exact ⟨0, Nat.zero_le _, rfl, Lib.hid ⟨gr_al _ _, F0.out, fun j n h => by omega⟩⟩
        case round =>
          obtain ⟨k, hk, rfl, HI⟩ := hrel
          obtain ⟨R5, rfl⟩ : ∃ W, W = wr := ⟨_, rfl⟩
          obtain ⟨sv, sc, rfl, -⟩ := HI.out.2.1.form As.cs_len
          by_cases hlt : k < NA
          · obtain ⟨xv, hxv⟩ : ∃ v, all[k]? = some v := ⟨_, List.getElem?_eq_getElem (by rw [HNA.out]; exact hlt)⟩
            obtain ⟨aR, rfl, r0⟩ := rd_num (HRD.out _ (G4.out.trans HI.out.1)) hxv
            obtain ⟨xr1, xr2⟩ := HRG.out xv (List.mem_of_getElem? hxv)
            have HXV := Lib.hid hxv
            obtain ⟨LL, hLL⟩ : ∃ l, (all.take k).map (mkA (cln ow)) = l := ⟨_, rfl⟩
            have HLL := Lib.hid hLL
            rw [hLL] at HI ⊢
            have HL2 := Lib.hid (show LL.length ≤ 200 from by rw [← hLL, List.length_map, List.length_take]; have := HAL.out; omega)
            clear hxv hLL
            go_wp2
            go_loopw [12, 13] (fun n i V => ∃ j : Nat, j ≤ no ∧ i = .int .i64 j ∧ n = iv (cli ow xv j) ∧ Hid (Gr R5 V)) (fun _ i _ => no - (intOf i).toNat)
            case atStart => exact ⟨0, Nat.zero_le _, rfl, by rw [cli_zero, HNO.out], Lib.hid (gr_refl _)⟩
            case round =>
              obtain ⟨j, hj, rfl, rfl, HJ⟩ := hrel
              by_cases hlt2 : j < no
              · obtain ⟨yv, hyv⟩ : ∃ v, ow[j]? = some v := ⟨_, List.getElem?_eq_getElem (by rw [HNO.out]; exact hlt2)⟩
                obtain ⟨a8, rfl, r8⟩ := rd_num (HR8.out _ (HI.out.1.trans HJ.out)) hyv
                have r0' := gr_c HJ.out r0
                have HYV := Lib.hid hyv
                clear hyv r0
                by_cases hxy : yv = xv
                · have CY := Lib.hid (cli_yes (x := xv) (i := j) (by rw [← hxy]; exact HYV.out) HOD.out)
                  have hb : (yv == xv) = true := by simpa using hxy
                  clear hxy
                  go_upto_region 19 with (fail)
                  go_quiet (fail)
                  go_wp2
                  exact ⟨⟨j + 1, hlt2, by simp, by rw [CY.out], Lib.hid (HJ.out.trans (gr_drewN _ _))⟩, by simp [intOf]; omega⟩
                · have CN := Lib.hid (cli_no HYV.out hxy)
                  have hb : (yv == xv) = false := by simpa using hxy
                  clear hxy
                  go_upto_region 19 with (fail)
                  go_quiet (fail)
                  go_wp2
                  exact ⟨⟨j + 1, hlt2, by simp, by rw [CN.out], Lib.hid (HJ.out.trans (gr_drewN _ _))⟩, by simp [intOf]; omega⟩
              · obtain rfl : no = j := by omega
                obtain ⟨R6, rfl⟩ : ∃ W, W = wr := ⟨_, rfl⟩
                have hce := cli_end ow ⟨xr1, xr2⟩ HOL.out
                rw [HNO.out] at hce
                rw [hce]
                have HCB := Lib.hid (H3.out.grow (G4.out.trans (HI.out.1.trans HJ.out)))
                have HLO := Lib.hid HCB.out.lo
                obtain ⟨z, hz⟩ : ∃ z, cln ow xv = z := ⟨_, rfl⟩
                have HZ := Lib.hid hz
                rw [hz]
                clear hz hce
                by_cases hg : 999999 < z
                · obtain rfl : R = ((0, .mk 0 0 []), 2) := HANY.out k xv HXV.out (by rw [HZ.out]; exact hg)
                  obtain ⟨z0, z1, z2, z3⟩ := cell4 HCB.out.hz
                  have f0 := frz HCB.out.hz 0
                  have f1 := frz HCB.out.hz 1
                  have f2 := frz HCB.out.hz 2
                  have f3 := frz HCB.out.hz 3
                  go_wp2
                  refine bodyPost_ret (results_row_tmp (P := Try.prog) rfl _ _ b1 _ _ _ _ rfl rfl (set4 HCB.out.hz _ _ _ _) rfl rfl rfl) rfl ?_
                  exact sep_bad 2 HCB.out.gr HLO.out
                · have r0' := gr_c HJ.out r0
                  have HG := Lib.hid hg
                  clear r0
                  go_upto_region 23 with (fail)
                  have HO := Lib.hid (fun V (g : Gr R6 V) => HI.out.2.1.gr (HJ.out.trans g))
                  have HW := Lib.hid (show ∀ V : World, Gr R6 V → W4.heap.size ≤ V.heap.size from fun V g => Nat.le_trans (HI.out.1.trans HJ.out).size g.size)
                  have VA := Lib.hid (fun V => var_any z V)
                  have R0 := Lib.hid r0'
                  have EL := Lib.hid (show (all.take (k + 1)).map (mkA (cln ow)) = LL ++ [⟨xv, yk 5 z⟩] from by
                    rw [List.take_add_one, HXV.out, List.map_append, HLL.out]
                    show LL ++ [mkA (cln ow) xv] = _
                    unfold mkA
                    rw [HZ.out])
                  have NX := Lib.hid (show ∀ (j : Nat) n, j < k + 1 → all[j]? = some n → cln ow n ≤ 999999 from fun j n hj hn => by
                    rcases Nat.lt_succ_iff_lt_or_eq.1 hj with h | rfl
                    · exact HI.out.2.2 j n h hn
                    · have := HXV.out.symm.trans hn
                      cases this
                      have := HG.out
                      have := HZ.out
                      omega)
                  go_region_law (first | (go_simp; go_at_call 26; refine (VA.out _).mono ?_; rintro e w6 ⟨rfl, g6⟩; have g7 : Gr R6 w6 := (gr_drew _).trans g6; have r6 := gr_c g7 R0.out; have G6 := Lib.hid g7; clear g6 g7) | (refine step_app (α := As) (cs := As.cs) 27 As.cs_len As.cell1 Try.underlying27 info43 rfl (by decide) (by decide) rfl (.tmp 76) (.tmp 84) rfl W4.heap.size (v := .slice sv LL.length sc) (L := LL) (by simp [Act.eval]) (HO.out _ (G6.out.trans (gr_al _ _))) (A := some ⟨w6.heap.size, 0, none⟩) (M := [⟨xv, yk 5 z⟩]) (m := 1) (c := 1) rfl (by simp [Act.eval]) (rd_cells (t := 43) As.cs_len (al_new _ _)) (by simp) (by have := HL2.out; simp; omega) (HW.out _ (G6.out.trans (gr_al _ _))) ?_; intro v7 w7 o7 g7 b7; have O7 := Lib.hid o7; have G7 := Lib.hid (OR.grow ((HI.out.1.trans HJ.out).trans (G6.out.trans (gr_al _ _))) (HO.out _ (G6.out.trans (gr_al _ _))) (Nat.le_refl _) g7); clear o7 g7 b7))
                  all_goals go_wp2
                  all_goals exact ⟨⟨k + 1, hlt, by simp, Lib.hid ⟨G7.out, by rw [EL.out]; exact O7.out, NX.out⟩⟩, by simp [intOf]; omega⟩
          · obtain rfl : R = (((no : Int), t), 0) := HALL.out fun j n hj => HI.out.2.2 j n (by omega)
            obtain rfl : NA = k := by omega
            have h2 := HI.out.2.1
            rw [List.take_of_length_le (by rw [HNA.out]; exact Nat.le_refl _)] at h2 ⊢
            obtain ⟨LL, hLL⟩ : ∃ l, all.map (mkA (cln ow)) = l := ⟨_, rfl⟩
            have HLL := Lib.hid hLL
            rw [hLL] at h2 ⊢
            obtain ⟨A9, c9, e9, hr9⟩ := h2.form As.cs_len
            obtain ⟨rfl, -, rfl⟩ := Value.slice.inj e9
            have HCB := Lib.hid (H3.out.grow (G4.out.trans HI.out.1))
            have RA := Lib.hid (rapply63 sv sc LL R5 ⟨hr9, fun y hy => by
              rw [← hLL] at hy
              obtain ⟨z, -, rfl⟩ := List.mem_map.1 hy
              exact TRd.nil _⟩ (by rw [← hLL, List.length_map]; have := HAL.out; omega) x R5 (gr_refl _) (HX.out _ HCB.out.gr) (ck_cke HQ.out).1 (by have := HSZ.out; omega))
            rw [← HLL.out, mkA_er, ← HALL0.out, rep_map, HTT.out, HALL0.out, HLL.out] at RA
            obtain ⟨⟨x0, x1, x2⟩, -⟩ := cell3 HCB.out.ht
            unfold Ty.v at RA
            have hlo := HCB.out.lo
            clear h2 hLL e9 hr9
            go_wp2_with (first | (go_at_call 63; (with_reducible refine RA.out.mono ?_); rintro e w5 ⟨⟨r, rfl, Y, rfl, tr⟩, g5⟩; unfold Ty.v; have T5 := Lib.hid tr; have H5 := Lib.hid (HCB.out.grow g5); have h5 := gr_h g5 HCB.out.hz; obtain ⟨z0, z1, z2, z3⟩ := cell4 h5; have f0 := frz h5 0; have f1 := frz h5 1; have f2 := frz h5 2; have f3 := frz h5 3; clear tr g5 h5))
            refine bodyPost_ret (results_row_tmp (P := Try.prog) rfl _ _ b1 _ _ _ _ rfl rfl (set4 H5.out.hz _ _ _ _) rfl rfl rfl) rfl ?_
            refine ⟨Y, rfl, ?_, T5.out.2.2, set4g H5.out.gr hlo _ _ _ _⟩
            refine TRd.keepAt T5.out.1 (tin_nz H5.out.hz (fun i n hi => ?_) T5.out.1 fun y hy => ?_) (by simp [World.setCell]) fun j hj _ => set4o hj _ _ _ _
            · match i, hi with
              | 0, hi => simpa using hi.symm
              | 1, hi => simpa using hi.symm
              | 2, hi => simpa using hi.symm
              | 3, hi => simp at hi
              | i + 4, hi => simp at hi
            · refine kz_sub (t := Y.er) (by rw [T5.out.2.2]; exact HKZ.out) ?_
              rw [er_sub, ers_map]
              exact List.mem_map.2 ⟨y, hy, rfl⟩
  · have hb : (q == 0) = false := by simpa using hq0
    have hb2 : (q != 0) = true := by simpa using hq0
    obtain rfl : ((0, .mk 0 0 []), q) = R := by have := HR.out; rw [if_pos hq0] at this; exact this.symm
    have hlo := HB.out.lo
    go_wp2_with (first | (go_at_call 18; (with_reducible refine (CK.out _ HB.out.gr).mono ?_); rintro e w1 ⟨rfl, g1⟩; have H1 := Lib.hid (HB.out.grow g1); obtain ⟨z0, z1, z2, z3⟩ := cell4 H1.out.hz; have f0 := frz H1.out.hz 0; have f1 := frz H1.out.hz 1; have f2 := frz H1.out.hz 2; have f3 := frz H1.out.hz 3; clear g1))
    refine bodyPost_ret (results_row_tmp (P := Try.prog) rfl _ _ b1 _ _ _ _ rfl rfl (set4 H1.out.hz _ _ _ _) rfl rfl rfl) rfl ?_
    exact sep_bad q H1.out.gr hlo
end Go.Proofs.Ytjlmhfdigoogfaa
