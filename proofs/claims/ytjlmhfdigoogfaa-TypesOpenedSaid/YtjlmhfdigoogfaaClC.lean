/- Walks: Close (27). -/
import Derived.Test.YtjlmhfdigoogfaaClB
import Derived.Deep.DeepCutAuto
namespace Go.Proofs.Ytjlmhfdigoogfaa
open Go.RowKit Go.ChangeMaps

/-- Between the rounds over the kept numbers. -/
structure K1 (x : Ty) (w : World) (b0 b1 kb : Nat) (keep : List Int) (k : Nat) (V : World) : Prop where
  cb : CB x w b0 b1 V
  ex : ∃ l, MP V kb (bml l) ∧ ∀ n, n ∈ l ↔ n ∈ keep.take k
theorem K1.step {x : Ty} {w : World} {b0 b1 kb : Nat} {keep : List Int} {k : Nat} {V : World} {l : List Int} (h : CB x w b0 b1 V) (hm : MP V kb (bml l)) (hl : ∀ n, n ∈ l ↔ n ∈ keep.take k) (hk : w.heap.size ≤ kb) {v : Int} (hv : keep[k]? = some v) : K1 x w b0 b1 kb keep (k + 1) (World.setM V kb (bml (bins l v))) := by
  refine ⟨h.map hm hk (grown_setM _ _ _), _, hm.set, fun n => ?_⟩
  rw [mem_bins, hl, List.take_add_one, hv]
  simp [or_comm]
/-- Between the rounds over the variables. -/
structure K2 (x : Ty) (w : World) (b0 b1 kb kb2 b11 base : Nat) (keep l all : List Int) (row : Value) (k : Nat) (V : World) : Prop where
  cb : CB x w b0 b1 V
  m1 : MP V kb (bml l)
  m2 : MP V kb2 (kml (knl ((all.take k).filter fun n => decide (n ∉ keep)) 0))
  bx : V.heap[b11]? = some (.cells #[.map (some kb2)] 66 (0, 0))
  ro : OR 3 1 NC V base row all
theorem K2.grow {x : Ty} {w : World} {b0 b1 kb kb2 b11 base : Nat} {keep l all : List Int} {row : Value} {k : Nat} {V U : World} (h : K2 x w b0 b1 kb kb2 b11 base keep l all row k V) (g : Gr V U) : K2 x w b0 b1 kb kb2 b11 base keep l all row k U :=
  ⟨h.cb.grow g, h.m1.gr g, h.m2.gr g, gr_h g h.bx, h.ro.gr g⟩
theorem K2.skip {x : Ty} {w : World} {b0 b1 kb kb2 b11 base : Nat} {keep l all : List Int} {row : Value} {k : Nat} {V : World} (h : K2 x w b0 b1 kb kb2 b11 base keep l all row k V) {n : Int} (hn : all[k]? = some n) (hk : n ∈ keep) : K2 x w b0 b1 kb kb2 b11 base keep l all row (k + 1) V := by
  refine ⟨h.cb, h.m1, ?_, h.bx, h.ro⟩
  have := h.m2
  rw [List.take_add_one, hn, List.filter_append]
  simpa [hk] using this
theorem K2.step {x : Ty} {w : World} {b0 b1 kb kb2 b11 base : Nat} {keep l all : List Int} {row : Value} {k : Nat} {V : World} (h : K2 x w b0 b1 kb kb2 b11 base keep l all row k V) {n : Int} (hn : all[k]? = some n) (hk : n ∉ keep) (hne : kb ≠ kb2) (hw : w.heap.size ≤ kb2) (hnd : all.Nodup) :
    K2 x w b0 b1 kb kb2 b11 base keep l all row (k + 1) (World.setM V kb2 (kml (kput n ((all.take k).filter fun n => decide (n ∉ keep)).length (knl ((all.take k).filter fun n => decide (n ∉ keep)) 0)))) := by
  have hnot : n ∉ (all.take k).filter fun n => decide (n ∉ keep) := by
    intro h1
    have h2 := (List.mem_filter.1 h1).1
    obtain ⟨i, hi⟩ := List.getElem?_of_mem h2
    rw [List.getElem?_take] at hi
    split at hi
    · rename_i hik
      have h3 := (List.getElem?_inj (by have := (List.getElem?_eq_some_iff.1 hi).1; exact this) hnd).1 (hi.trans hn.symm)
      omega
    · cases hi
  have hp := knl_put n ((all.take k).filter fun n => decide (n ∉ keep)) 0 hnot
  rw [Nat.zero_add] at hp
  rw [hp]
  have e : (all.take (k + 1)).filter (fun n => decide (n ∉ keep)) = (all.take k).filter (fun n => decide (n ∉ keep)) ++ [n] := by
    rw [List.take_add_one, hn, List.filter_append]
    simp [hk]
  refine ⟨h.cb.map h.m2 hw (grown_setM _ _ _), h.m1.map hne (grown_setM _ _ _), by rw [e]; exact h.m2.set, cells_map h.m2 h.bx (grown_setM _ _ _), ?_⟩
  have hm := h.m2
  unfold MP at hm
  exact h.ro.but hm (by simp) (grown_setM _ _ _)
set_option maxRecDepth 100000 in
set_option maxHeartbeats 8000000 in
theorem close_any (x : Ty) (Ak : Option Addr) (ca : Nat) (keep : List Int) (w : World) (hx : x.Rd w) (hK : RD 1 NC w Ak keep) (hkl : keep.length ≤ 1000000) : Calls Try.prog 27 #[x.v, .slice Ak keep.length ca] w (SEP w (clE keep x.er)) := by
  have CK := Lib.hid (fun V (g : Gr w V) => check_any x V (TRd.gr hx g))
  have HX := Lib.hid (fun V (g : Gr w V) => TRd.gr hx g)
  have HKP := Lib.hid (fun V (g : Gr w V) => hK.gr g)
  have CO := Lib.hid (fun V (g : Gr w V) (h : x.er.size ≤ 1000) => order_any x V (TRd.gr hx g) h)
  obtain ⟨NK, hNK⟩ : ∃ n, keep.length = n := ⟨_, rfl⟩
  have HNK := Lib.hid hNK
  rw [hNK] at hkl
  rw [hNK]
  have HB := Lib.hid (CB.of x w)
  have HR := Lib.hid (show clE keep x.er = if ck x.er ≠ 0 then ((0, .mk 0 0 []), ck x.er)
  else if (sn [] x.er).any (fun n => decide (n ∈ keep ∧ 999999 < n + ((owns keep x.er).length : Int))) then ((0, .mk 0 0 []), 2)
  else ((((owns keep x.er).length : Int), x.er.rep fun n => vr (cln (owns keep x.er) n)), 0) from rfl)
  obtain ⟨R, hR⟩ : ∃ R, clE keep x.er = R := ⟨_, rfl⟩
  rw [hR] at HR ⊢
  obtain ⟨q, hq⟩ : ∃ q, ck x.er = q := ⟨_, rfl⟩
  have HQ := Lib.hid hq
  simp only [hq] at CK HR
  clear hx hK hNK hR hq
  unfold Ty.v at *
  go_enter Try.func27, Try.ntmps27
  go_upto_region 1 with (fail)
  generalize hW0 : World.alloc (World.alloc w _) _ = W0 at *
  clear hW0
  obtain ⟨b0, hb0⟩ : ∃ b, w.heap.size = b := ⟨_, rfl⟩
  obtain ⟨b1, hb1⟩ : ∃ b, b0 + 1 = b := ⟨_, rfl⟩
  have HB := Lib.hid (show CB x w b0 b1 W0 from by rw [← hb1, ← hb0]; exact HB.out)
  rw [hb0, hb1]
  clear hb0 hb1
  obtain ⟨⟨x0, x1, x2⟩, -⟩ := cell3 HB.out.ht
  by_cases hq0 : q = 0
  · subst hq0
    have hmm := @run_makeMap Try.prog
    go_upto_region 5 with (first | (go_at_call 17; (with_reducible refine (CK.out _ HB.out.gr).mono ?_); rintro e w1 ⟨rfl, g1⟩; have H1 := Lib.hid (HB.out.grow g1); clear g1))
    obtain ⟨kb, hkb⟩ : ∃ k, w1.heap.size = k := ⟨_, rfl⟩
    have HKB := Lib.hid (show w.heap.size ≤ kb from by rw [← hkb]; exact H1.out.gr.size)
    have I0 := Lib.hid (show K1 x w b0 b1 kb keep 0 (w1.alloc (.map #[] 0)) from ⟨H1.out.grow (gr_al _ _), [], by rw [← hkb]; exact MP.made _, by simp⟩)
    rw [hkb]
    clear hkb H1 HB x0 x1 x2 hmm
    rw [if_neg (by simp)] at HR
    have hck := ck_cke HQ.out
    have HSZ := Lib.hid (show x.er.size ≤ 200 from hck.2)
    clear hck
    generalize World.alloc w1 _ = W2 at *
    go_wp2
    go_loopw [26] (fun i V => ∃ k : Nat, k ≤ NK ∧ i = .int .i64 k ∧ Hid (K1 x w b0 b1 kb keep k V)) (fun i _ => NK - (intOf i).toNat)
    case atStart => exact ⟨0, Nat.zero_le _, rfl, I0⟩
    case round =>
      clear I0
      obtain ⟨k, hk, rfl, HI⟩ := hrel
      by_cases hlt : k < NK
      · obtain ⟨kv, hkv⟩ : ∃ v, keep[k]? = some v := ⟨_, List.getElem?_eq_getElem (by rw [HNK.out]; exact hlt)⟩
        obtain ⟨aK, rfl, k0⟩ := rd_num (HKP.out _ HI.out.cb.gr) hkv
        obtain ⟨l, hl1, hl2⟩ := HI.out.ex
        have hup := bupd hl1 kv
        have ST := Lib.hid (K1.step HI.out.cb hl1 hl2 HKB.out hkv)
        clear hkv hl1 hl2
        go_wp2
        exact ⟨⟨k + 1, hlt, by simp, ST⟩, by simp [intOf]; omega⟩
      · obtain rfl : k = NK := by omega
        obtain ⟨R1, rfl⟩ : ∃ W, W = wr := ⟨_, rfl⟩
        obtain ⟨l, hl1, hl2⟩ := HI.out.ex
        rw [List.take_of_length_le (by rw [HNK.out]; exact Nat.le_refl _)] at hl2
        have HL1 := Lib.hid hl1
        have HL2 := Lib.hid hl2
        obtain ⟨⟨x0, x1, x2⟩, -⟩ := cell3 HI.out.cb.ht
        have HCB := Lib.hid HI.out.cb
        clear hl1 hl2 HI hlt hk
        have hmm := @run_makeMap Try.prog
        go_upto_region 11 with (first | (go_at_call 56; (with_reducible refine (CO.out _ HCB.out.gr (by have := HSZ.out; omega)).mono ?_); rintro e w3 ⟨⟨row, rfl, ho⟩, g3⟩; have O3 := Lib.hid ho; have H3 := Lib.hid (HCB.out.grow g3); have M3 := Lib.hid (HL1.out.gr g3); have S3 := Lib.hid g3; clear ho g3))
        go_upto_region 12 with (fail)
        clear hmm x0 x1 x2
        obtain ⟨all, hall⟩ : ∃ l, sn [] x.er = l := ⟨_, rfl⟩
        have HND := Lib.hid (show all.Nodup from by rw [← hall]; exact nodup_sn0 _)
        have HAL := Lib.hid (show all.length ≤ 200 from by rw [← hall]; have := sn_len [] x.er; have := HSZ.out; simp at *; omega)
        have HRG := Lib.hid (show ∀ n ∈ all, 0 ≤ n ∧ n ≤ 999999 from fun n hn => by
          rw [← hall, mem_sn] at hn
          rcases hn with hn | hn
          · cases hn
          · exact vin_range (ck_cke HQ.out).1 hn)
        have HOW := Lib.hid (show owns keep x.er = all.filter (fun n => decide (n ∉ keep)) from by unfold owns; rw [hall])
        have o3 := O3.out
        rw [hall] at o3 HR
        obtain ⟨A3, c3, rfl, -⟩ := o3.form NC_len
        obtain ⟨NA, hNA⟩ : ∃ n, all.length = n := ⟨_, rfl⟩
        have HNA := Lib.hid hNA
        have hna : NA ≤ 200 := by rw [← hNA]; exact HAL.out
        obtain ⟨kb2, hkb2⟩ : ∃ k, w3.heap.size = k := ⟨_, rfl⟩
        obtain ⟨b11, hb11⟩ : ∃ k, kb2 + 1 = k := ⟨_, rfl⟩
        have HKB2 := Lib.hid (show kb ≠ kb2 ∧ w.heap.size ≤ kb2 from ⟨by have := M3.out.lt; omega, by rw [← hkb2]; exact H3.out.gr.size⟩)
        have I1 := Lib.hid (show K2 x w b0 b1 kb kb2 b11 R1.heap.size keep l all (.slice A3 NA c3) 0 ((w3.alloc (.map #[] 0)).alloc (.cells #[.map (some kb2)] 66)) from by
          rw [← hNA]
          refine ⟨H3.out.grow ((gr_al _ _).trans (gr_al _ _)), M3.out.gr ((gr_al _ _).trans (gr_al _ _)), ?_, ?_, o3.gr ((gr_al _ _).trans (gr_al _ _))⟩
          · rw [← hkb2]; exact MP.gr (l := []) (MP.made w3) (gr_al _ _)
          · rw [← hb11, ← hkb2]; exact al_at _ _ (by simp))
        rw [hNA, hkb2, hb11]
        clear hall o3 O3 hNA hkb2 hb11 H3 M3
        generalize World.alloc (World.alloc w3 _) _ = W4 at *
        go_wp2
        go_loopw [38] (fun i V => ∃ k : Nat, k ≤ NA ∧ i = .int .i64 k ∧ Hid (K2 x w b0 b1 kb kb2 b11 R1.heap.size keep l all (.slice A3 NA c3) k V)) (fun i _ => NA - (intOf i).toNat)
        case atStart => exact ⟨0, Nat.zero_le _, rfl, I1⟩
        case round =>
          clear I1
          obtain ⟨j, hj, rfl, HJ⟩ := hrel
          by_cases hlt : j < NA
          · obtain ⟨n, hn⟩ : ∃ v, all[j]? = some v := ⟨_, List.getElem?_eq_getElem (by rw [HNA.out]; exact hlt)⟩
            obtain ⟨A', c', e, hrd⟩ := HJ.out.ro.form NC_len
            obtain ⟨rfl, -, rfl⟩ := Value.slice.inj e
            obtain ⟨aR, rfl, r0⟩ := rd_num hrd hn
            have lk := blook HJ.out.m1 n
            by_cases hin : n ∈ keep
            · rw [decide_eq_true ((HL2.out n).2 hin)] at lk
              have ST := Lib.hid (HJ.out.skip hn hin)
              clear e hrd hn hin
              go_wp2
              exact ⟨⟨j + 1, hlt, by simp, ST⟩, by simp [intOf]; omega⟩
            · rw [decide_eq_false (fun h => hin ((HL2.out n).1 h))] at lk
              have ST := Lib.hid (HJ.out.step hn hin HKB2.out.1 HKB2.out.2 HND.out)
              have bx := cell1 HJ.out.bx
              obtain ⟨ow, how⟩ : ∃ o, (all.take j).filter (fun n => decide (n ∉ keep)) = o := ⟨_, rfl⟩
              have m2 := HJ.out.m2
              rw [how] at ST m2
              have hup := kupd m2 n (ow.length : Int)
              have M2 := Lib.hid m2
              have ML2 := Lib.hid (show (kml (knl ow 0)).length = ow.length from by unfold kml; rw [List.length_map, knl_len])
              obtain ⟨mm, hmm⟩ : ∃ m, kml (knl ow 0) = m := ⟨_, rfl⟩
              rw [hmm] at M2 ML2
              obtain ⟨m3, hm3⟩ : ∃ m, kml (kput n (ow.length : Int) (knl ow 0)) = m := ⟨_, rfl⟩
              rw [hm3] at hup ST
              clear e hrd hn hin m2 how hmm hm3
              go_wp2_with (first | (at_len; refine wpList_len_m rfl (.tmp 48) rfl rfl M2.out ?_; rw [ML2.out]))
              exact ⟨⟨j + 1, hlt, by simp, ST⟩, by simp [intOf]; omega⟩
          · obtain rfl : NA = j := by omega
            obtain ⟨R2, rfl⟩ : ∃ W, W = wr := ⟨_, rfl⟩
            obtain ⟨-, -, m2, bx, -⟩ := HJ.out
            rw [List.take_of_length_le (by rw [HNA.out]; exact Nat.le_refl _), ← HOW.out] at m2
            obtain ⟨ow, how⟩ : ∃ o, owns keep x.er = o := ⟨_, rfl⟩
            rw [how] at m2 HR HOW
            have HOL := Lib.hid (show ow.length ≤ 200 from by rw [← how]; have := owns_len keep x.er; have := HSZ.out; omega)
            have M2 := Lib.hid m2
            have ML2 := Lib.hid (show (kml (knl ow 0)).length = ow.length from by unfold kml; rw [List.length_map, knl_len])
            have lnm := run_len_m m2 3
            rw [ML2.out] at lnm
            have BX := Lib.hid bx
            have bx1 := cell1 bx
            obtain ⟨mm, hmm⟩ : ∃ m, kml (knl ow 0) = m := ⟨_, rfl⟩
            have HMM := Lib.hid hmm
            rw [hmm] at M2 ML2
            obtain ⟨no, hno⟩ : ∃ n, ow.length = n := ⟨_, rfl⟩
            have HNO := Lib.hid hno
            rw [hno] at ML2 HR lnm
            have hno2 : no ≤ 200 := by rw [← hno]; exact HOL.out
            have RP := Lib.hid (replace64 ⟨b11, 0, none⟩ (fun n => vr (cln ow n)) R2 (fun n U gU => close1_any b11 kb2 ow R2 bx1 m2 n U gU) x R2 (gr_refl _) (HX.out _ HJ.out.cb.gr) (by have := HSZ.out; omega))
            have HKZ := Lib.hid (show KZ (x.er.rep fun n => vr (cln ow n)) from kz_rep (fun n => kz_vr _) (kz_good (ck_cke HQ.out).1))
            obtain ⟨t, ht⟩ : ∃ t, (x.er.rep fun n => vr (cln ow n)) = t := ⟨_, rfl⟩
            rw [ht] at RP HKZ HR
            have HANY := Lib.hid (show ∀ (j : Nat) n, all[j]? = some n → n ∈ keep → 999999 < n + (no : Int) → R = ((0, .mk 0 0 []), 2) from fun j n h1 h2 h3 => by
              have h := HR.out
              rw [if_pos (List.any_eq_true.2 ⟨n, List.mem_of_getElem? h1, by simp [h2]; omega⟩)] at h
              exact h)
            have HALL := Lib.hid (show (∀ (j : Nat) n, j < NA → all[j]? = some n → ¬ (n ∈ keep ∧ 999999 < n + (no : Int))) → R = (((no : Int), t), 0) from fun h1 => by
              have h := HR.out
              rw [if_neg ?_] at h
              · exact h
              · rw [List.any_eq_true]
                rintro ⟨n, hn, h2⟩
                obtain ⟨j, hjn⟩ := List.getElem?_of_mem hn
                exact h1 j n (by rw [← HNA.out]; exact (List.getElem?_eq_some_iff.1 hjn).1) hjn (of_decide_eq_true h2))
            clear m2 bx hmm hno how hlt hj ht HR
            go_wp2
            go_loop [53] (fun i => ∃ k : Nat, k ≤ NA ∧ i = .int .i64 k ∧ Hid (∀ (j : Nat) n, j < k → all[j]? = some n → ¬ (n ∈ keep ∧ 999999 < n + (no : Int)))) (fun i => NA - (intOf i).toNat)
            case atStart => exact ⟨0, Nat.zero_le _, rfl, Lib.hid fun j n h => by omega⟩
            case round =>
              obtain ⟨k, hk, rfl, HI⟩ := hrel
              by_cases hlt : k < NA
              · obtain ⟨n, hn⟩ : ∃ v, all[k]? = some v := ⟨_, List.getElem?_eq_getElem (by rw [HNA.out]; exact hlt)⟩
                obtain ⟨A', c', e, hrd⟩ := HJ.out.ro.form NC_len
                obtain ⟨rfl, -, rfl⟩ := Value.slice.inj e
                obtain ⟨aR, rfl, r0⟩ := rd_num hrd hn
                have lk := blook HJ.out.m1 n
                obtain ⟨hr1, hr2⟩ := HRG.out n (List.mem_of_getElem? hn)
                have HN := Lib.hid hn
                clear e hrd hn
                by_cases hin : n ∈ keep
                · rw [decide_eq_true ((HL2.out n).2 hin)] at lk
                  have HIN := Lib.hid hin
                  clear hin
                  by_cases hg : 999999 < n + (no : Int)
                  · obtain rfl : R = ((0, .mk 0 0 []), 2) := HANY.out k n HN.out HIN.out hg
                    obtain ⟨z0, z1, z2, z3⟩ := cell4 HJ.out.cb.hz
                    have f0 := frz HJ.out.cb.hz 0
                    have f1 := frz HJ.out.cb.hz 1
                    have f2 := frz HJ.out.cb.hz 2
                    have f3 := frz HJ.out.cb.hz 3
                    clear HANY HALL
                    go_wp2
                    refine bodyPost_ret (results_row_tmp (P := Try.prog) rfl _ _ b1 _ _ _ _ rfl rfl (set4 HJ.out.cb.hz _ _ _ _) rfl rfl rfl) rfl ?_
                    exact sep_bad 2 HJ.out.cb.gr HJ.out.cb.lo
                  · have HG := Lib.hid hg
                    go_wp2
                    go_round
                    case rel => exact ⟨k + 1, hlt, by simp, Lib.hid fun j m hj hm => by
                      rcases Nat.lt_succ_iff_lt_or_eq.1 hj with h | rfl
                      · exact HI.out j m h hm
                      · have := HN.out.symm.trans hm
                        cases this
                        exact fun h => HG.out h.2⟩
                    case measure => simp [intOf]; omega
                · rw [decide_eq_false (fun h => hin ((HL2.out n).1 h))] at lk
                  have HIN := Lib.hid hin
                  clear hin
                  go_wp2
                  go_round
                  case rel => exact ⟨k + 1, hlt, by simp, Lib.hid fun j m hj hm => by
                    rcases Nat.lt_succ_iff_lt_or_eq.1 hj with h | rfl
                    · exact HI.out j m h hm
                    · have := HN.out.symm.trans hm
                      cases this
                      exact fun h => HIN.out h.1⟩
                  case measure => simp [intOf]; omega
              · obtain rfl : R = (((no : Int), t), 0) := HALL.out fun j n hj => HI.out j n (by omega)
                obtain ⟨⟨x0, x1, x2⟩, -⟩ := cell3 HJ.out.cb.ht
                clear HANY HALL lnm bx1
                unfold Ty.v at RP
                go_upto_region 25 with (first | (go_at_call 58; (with_reducible refine RP.out.mono ?_); rintro e w5 ⟨⟨r, rfl, Y, rfl, tr⟩, g5⟩; unfold Ty.v; have T5 := Lib.hid tr; have H5 := Lib.hid ((HJ.out.cb.grow g5).grow (gr_al w5 (.cells #[iv Y.kind, iv Y.var, .slice Y.A Y.sub.length Y.c] 24))); have HA := Lib.hid (al_new w5 (.cells #[iv Y.kind, iv Y.var, .slice Y.A Y.sub.length Y.c] 24)); have GA := Lib.hid (gr_al w5 (.cells #[iv Y.kind, iv Y.var, .slice Y.A Y.sub.length Y.c] 24)); have G5 := Lib.hid (g5.trans (gr_al w5 (.cells #[iv Y.kind, iv Y.var, .slice Y.A Y.sub.length Y.c] 24))); clear tr g5))
                generalize hW6 : World.alloc w5 _ = W6 at *
                clear hW6 x0 x1 x2
                obtain ⟨b16, hb16⟩ : ∃ k, w5.heap.size = k := ⟨_, rfl⟩
                have HA := Lib.hid (show W6.heap[b16]? = some (.cells #[iv Y.kind, iv Y.var, .slice Y.A Y.sub.length Y.c] 24 (0, 0)) from by rw [← hb16]; exact HA.out)
                rw [hb16]
                clear hb16
                obtain ⟨⟨y0, y1, y2⟩, -⟩ := cell3 HA.out
                obtain ⟨z0, z1, z2, z3⟩ := cell4 H5.out.hz
                have f0 := frz H5.out.hz 0
                have f1 := frz H5.out.hz 1
                have f2 := frz H5.out.hz 2
                have f3 := frz H5.out.hz 3
                have bx1 := cell1 (gr_h G5.out BX.out)
                have M6 := Lib.hid (M2.out.gr G5.out)
                have hlo := H5.out.lo
                go_wp2_with (first | (at_len; refine wpList_len_m rfl (.tmp 72) rfl rfl M6.out ?_; rw [ML2.out]))
                refine bodyPost_ret (results_row_tmp (P := Try.prog) rfl _ _ b1 _ _ _ _ rfl rfl (set4 H5.out.hz _ _ _ _) rfl rfl rfl) rfl ?_
                refine ⟨Y, rfl, ?_, T5.out.2.2, set4g H5.out.gr hlo _ _ _ _⟩
                have hR := TRd.gr T5.out.1 GA.out
                refine TRd.keepAt hR (tin_nz H5.out.hz (fun i n hi => ?_) hR fun y hy => ?_) (by simp [World.setCell]) fun j hj _ => set4o hj _ _ _ _
                · match i, hi with
                  | 0, hi => simpa using hi.symm
                  | 1, hi => simpa using hi.symm
                  | 2, hi => simpa using hi.symm
                  | 3, hi => simp at hi
                  | i + 4, hi => simp at hi
                · refine kz_sub (t := Y.er) (by rw [T5.out.2.2]; exact HKZ.out) ?_
                  rw [er_sub, ers_map]
                  exact List.mem_map.2 ⟨y, hy, rfl⟩
  · have hb : (q == 0) = false := by simpa using hq0
    have hb2 : (q != 0) = true := by simpa using hq0
    obtain rfl : ((0, .mk 0 0 []), q) = R := by have := HR.out; rw [if_pos hq0] at this; exact this.symm
    have hlo := HB.out.lo
    go_wp2_with (first | (go_at_call 17; (with_reducible refine (CK.out _ HB.out.gr).mono ?_); rintro e w1 ⟨rfl, g1⟩; have H1 := Lib.hid (HB.out.grow g1); obtain ⟨z0, z1, z2, z3⟩ := cell4 H1.out.hz; have f0 := frz H1.out.hz 0; have f1 := frz H1.out.hz 1; have f2 := frz H1.out.hz 2; have f3 := frz H1.out.hz 3; clear g1))
    refine bodyPost_ret (results_row_tmp (P := Try.prog) rfl _ _ b1 _ _ _ _ rfl rfl (set4 H1.out.hz _ _ _ _) rfl rfl rfl) rfl ?_
    exact sep_bad q H1.out.gr hlo
end Go.Proofs.Ytjlmhfdigoogfaa
