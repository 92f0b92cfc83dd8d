/- Walks: Unify (15) of valid types. -/
import Derived.Test.YtjlmhfdigoogfaaRvN
namespace Go.Proofs.Ytjlmhfdigoogfaa
open Go.RowKit

theorem up_one {W4 W5 : World} {g c N : Nat} (h : (((W4.alloc (.cells (Array.replicate N (.bool false)) 4)).alloc (.cells (madeCells #[iv 0, iv 0, .slice none 0 0] (N * 3)) 24)).alloc (.cells #[.slice (some ⟨g, 0, none⟩) N c, .slice none 0 0, .slice (some ⟨W4.heap.size, 0, none⟩) N N, .slice (some ⟨W4.heap.size + 1, 0, none⟩) N N] 82)).drew = W5) :
    UpI W4 (W4.heap.size + 1 + 1) W4.heap.size (W4.heap.size + 1) (some ⟨g, 0, none⟩) c N 0 (.slice none 0 0) W5 := by
  subst h
  refine ⟨(((gr_al _ _).trans (gr_al _ _)).trans (gr_al _ _)).trans (gr_drew _), by omega, by omega, al_at _ _ (by simp), ?_, ?_, OR.nil⟩
  · exact ((Below.heap_alloc _ _ _ (by simp; omega)).trans (Below.heap_alloc _ _ _ (by simp))).trans (al_new W4 _)
  · exact (Below.heap_alloc _ _ _ (by simp)).trans (al_at _ _ (by simp))
theorem up_two {W4 W5 : World} {g c N : Nat} (h : (((W4.alloc (.cells (madeCells #[iv 0, iv 0, .slice none 0 0] (N * 3)) 24)).alloc (.cells (Array.replicate N (.bool false)) 4)).alloc (.cells #[.slice (some ⟨g, 0, none⟩) N c, .slice none 0 0, .slice (some ⟨W4.heap.size + 1, 0, none⟩) N N, .slice (some ⟨W4.heap.size, 0, none⟩) N N] 82)).drew = W5) :
    UpI W4 (W4.heap.size + 1 + 1) (W4.heap.size + 1) W4.heap.size (some ⟨g, 0, none⟩) c N 0 (.slice none 0 0) W5 := by
  subst h
  refine ⟨(((gr_al _ _).trans (gr_al _ _)).trans (gr_al _ _)).trans (gr_drew _), by omega, by omega, al_at _ _ (by simp), ?_, ?_, OR.nil⟩
  · exact (Below.heap_alloc _ _ _ (by simp)).trans (al_at _ _ (by simp))
  · exact ((Below.heap_alloc _ _ _ (by simp; omega)).trans (Below.heap_alloc _ _ _ (by simp))).trans (al_new W4 _)
theorem uvs_gvr {a b : PT} (ha : cke a = 0) (hb : cke b = 0) {n : Int} (hn : n ∈ uvs a b) : GV (uvs a b) (vr n) := by
  refine ⟨good_vr ?_, fun u hu => by rw [vin_vr.1 hu]; exact hn⟩
  rcases uvs_mem.1 hn with h3 | h3
  · exact vin_range ha h3
  · exact vin_range hb h3
theorem rvars_le (t : PT) : (rvars t).length ≤ 200 := by
  rw [rvars_eq]
  unfold vrs
  split
  · rename_i h
    rw [ascd_len]
    have h1 := sn_len [] t
    have h2 := (ck_cke h).2
    simp at h1
    omega
  · simp
theorem fold_snoc {L : List Int} {k : Nat} (h : k < L.length) (o : List Int) : (L.take (k + 1)).foldl insF o = insD L[k] ((L.take k).foldl insF o) := by
  rw [List.take_add_one, List.foldl_append, List.getElem?_eq_getElem h]
  rfl
attribute [local irreducible] Calls in
set_option maxRecDepth 100000 in
set_option maxHeartbeats 4000000 in
theorem runify_go (x y : Ty) (W : World) (hx : x.Rd W) (hy : y.Rd W) (hcx : ck x.er = 0) (hcy : ck y.er = 0) : Calls Try.prog 15 #[x.v, y.v] W (AsP W (uans x.er y.er).1 (uans x.er y.er).2) := by
  have BB := Lib.hid (b2_new x.kind x.var (.slice x.A x.sub.length x.c) y.kind y.var (.slice y.A y.sub.length y.c) W)
  have GE := Lib.hid (BB.out.gr.trans (gr_al _ (.cells #[] 43)))
  have HB1 := Lib.hid (gr_h (gr_al _ (.cells #[] 43)) BB.out.h1)
  have HB2 := Lib.hid (gr_h (gr_al _ (.cells #[] 43)) BB.out.h2)
  have HB5 := Lib.hid (al_at ((W.alloc (.cells #[iv x.kind, iv x.var, .slice x.A x.sub.length x.c] 24)).alloc (.cells #[iv y.kind, iv y.var, .slice y.A y.sub.length y.c] 24)) (.cells #[] 43) (A := W.heap.size + 2) (by simp))
  obtain ⟨⟨p0, p1, p2⟩, -⟩ := cell3 HB1.out
  obtain ⟨⟨q0, q1, q2⟩, -⟩ := cell3 HB2.out
  have CX := Lib.hid (fun U (g : Gr W U) => rCheck_any x U (TRd.gr hx g))
  have CY := Lib.hid (fun U (g : Gr W U) => rCheck_any y U (TRd.gr hy g))
  have VX := Lib.hid (fun U (g : Gr W U) => rvars_any x U (TRd.gr hx g))
  have VY := Lib.hid (fun U (g : Gr W U) => rvars_any y U (TRd.gr hy g))
  have HX := Lib.hid hx
  have HY := Lib.hid hy
  have UV := Lib.hid (uvs_ins hcx hcy)
  have LX : (rvars x.er).length ≤ 200 := rvars_le _
  have LY : (rvars y.er).length ≤ 200 := rvars_le _
  simp only [hcx] at CX
  simp only [hcy] at CY
  have HCX := Lib.hid hcx
  have HCY := Lib.hid hcy
  obtain ⟨l0, hl0⟩ : ∃ l, rvars x.er = l := ⟨_, rfl⟩
  obtain ⟨l1, hl1⟩ : ∃ l, rvars y.er = l := ⟨_, rfl⟩
  rw [hl0] at LX
  rw [hl1] at LY
  simp only [hl0] at VX UV
  simp only [hl1] at VY UV
  obtain ⟨M, hM⟩ : ∃ M, l1.length = M := ⟨_, rfl⟩
  simp only [hM] at VY LY
  have HM := Lib.hid hM
  unfold Ty.v at CX CY VX VY ⊢
  clear hx hy hcx hcy hl0 hl1 hM
  go_enter Try.func15, Try.ntmps15
  go_upto_region 10 with (first | (go_at_call 18; (with_reducible refine (CX.out _ GE.out).mono ?_); rintro e w1 ⟨rfl, g1⟩; have G1 := Lib.hid (GE.out.trans g1); have q0' := gr_c g1 q0; have q1' := gr_c g1 q1; have q2' := gr_c g1 q2; have p0' := gr_c g1 p0; have p1' := gr_c g1 p1; have p2' := gr_c g1 p2; have HP1 := Lib.hid (gr_h g1 HB1.out); have HE1 := Lib.hid (gr_h g1 HB5.out); have HP2 := Lib.hid (gr_h g1 HB2.out); clear g1) | (go_at_call 18; (with_reducible refine (CY.out _ G1.out).mono ?_); rintro e w2 ⟨rfl, g2⟩; have G2 := Lib.hid (G1.out.trans g2); have p0 := gr_c g2 p0'; have p1 := gr_c g2 p1'; have p2 := gr_c g2 p2'; have q0 := gr_c g2 q0'; have q1 := gr_c g2 q1'; have q2 := gr_c g2 q2'; have HP3 := Lib.hid (gr_h g2 HP1.out); have HE2 := Lib.hid (gr_h g2 HE1.out); have HP4 := Lib.hid (gr_h g2 HP2.out); clear g2 p0' p1' p2' q0' q1' q2') | (go_at_call 21; (with_reducible refine (VX.out _ G2.out).mono ?_); rintro e w3 ⟨⟨a0, c0, rfl, o3⟩, g3⟩; have O3 := Lib.hid o3; have G3 := Lib.hid (G2.out.trans g3); have g23 := Lib.hid g3; have q0' := gr_c g3 q0; have q1' := gr_c g3 q1; have q2' := gr_c g3 q2; have HP5 := Lib.hid (gr_h g3 HP3.out); have HE3 := Lib.hid (gr_h g3 HE2.out); have HP6 := Lib.hid (gr_h g3 HP4.out); clear g3 o3) | (go_at_call 21; (with_reducible refine (VY.out _ G3.out).mono ?_); rintro e w4 ⟨⟨a1, c1, rfl, o4⟩, g4⟩; have O4 := Lib.hid o4; have G4 := Lib.hid (G3.out.trans g4); have O5 := Lib.hid (O3.out.gr g4); have HP7 := Lib.hid (gr_h g4 HP5.out); have HE4 := Lib.hid (heap_lt (gr_h g4 HE3.out)); have HP8 := Lib.hid (gr_h g4 HP6.out); have S4 := Lib.hid (Nat.le_trans g23.out.size g4.size); have G4 := Lib.hid (G3.out.trans g4); clear g4 o4 q0' q1' q2'))
  clear p0 p1 p2 q0 q1 q2
  have RY := Lib.hid (fun U (g : Gr w4 U) k (hk : k < l1.length) => show U.cell? ⟨a1, k, none⟩ = some (iv l1[k]) from by
    obtain ⟨A, c, e1, hr, -⟩ := O4.out.form2 NC_len
    obtain ⟨rfl, -, -⟩ := Value.slice.inj e1
    obtain ⟨a, e, -, hc⟩ := hr.at hk
    cases e
    have h := hc 0 (iv l1[k]) rfl
    rw [Nat.mul_one, Nat.add_zero, add0] at h
    exact gr_c g h)
  go_wp2
  go_loopw [9, 11] (fun v i U => ∃ (k g c n : Nat), v = .slice (some ⟨g, 0, none⟩) n c ∧ i = .int .i64 k ∧ k ≤ M ∧ Hid (Gr w4 U ∧ n = ((l1.take k).foldl insF l0).length ∧ OR 3 1 NC U w2.heap.size (.slice (some ⟨g, 0, none⟩) n c) ((l1.take k).foldl insF l0))) (fun _ i _ => M - (intOf i).toNat)
  case atStart => exact ⟨0, a0, c0, _, rfl, rfl, Nat.zero_le _, Lib.hid ⟨gr_refl _, rfl, O5.out⟩⟩
  case round =>
    obtain ⟨k, g, c, n, rfl, rfl, hk, HR⟩ := hrel
    obtain ⟨gu, rfl, o5⟩ := HR.out
    have GU := Lib.hid gu
    have OU := Lib.hid o5
    clear gu o5 HR
    by_cases hlt : k < M
    · have hlt2 : k < l1.length := by rw [HM.out]; exact hlt
      have u0 := RY.out _ GU.out k hlt2
      have HF := Lib.hid (fold_snoc hlt2 l0)
      have hlen := insF_len (l1.take k) l0
      have CI := Lib.hid (insert_any w2.heap.size wr g c ((l1.take k).foldl insF l0) l1[k] OU.out (Nat.le_trans S4.out GU.out.size) (by rw [List.length_take] at hlen; omega))
      generalize l1[k] = z at *
      rw [← HF.out] at CI
      generalize (l1.take k).foldl insF l0 = Lk at *
      go_wp2_with (go_at_call 49; (with_reducible refine CI.out.mono ?_); rintro e w6 ⟨⟨g', c', rfl, o6⟩, g6⟩; have G6 := Lib.hid g6; have O6 := Lib.hid o6; clear g6 o6)
      exact ⟨⟨k + 1, g', c', _, rfl, by simp, hlt, Lib.hid ⟨GU.out.trans G6.out, rfl, O6.out⟩⟩, by simp [intOf]; omega⟩
    · obtain rfl : M = k := by omega
      have hU := UV.out
      rw [← List.take_of_length_le (Nat.le_of_eq HM.out)] at hU
      have HV := Lib.hid hU
      have hlen := insF_len (l1.take M) l0
      rw [List.length_take] at hlen
      have OV := Lib.hid (show OR 3 1 NC wr w2.heap.size (.slice (some ⟨g, 0, none⟩) ((l1.take M).foldl insF l0).length c) (uvs x.er y.er) from by rw [← HV.out]; exact OU.out)
      clear hU OU
      generalize (l1.take M).foldl insF l0 = V0 at *
      have hv0 : uvs x.er y.er = V0 := HV.out.symm
      rw [hv0] at OV
      have HVV := Lib.hid hv0
      clear hv0
      obtain ⟨N, hN⟩ : ∃ N, V0.length = N := ⟨_, rfl⟩
      rw [hN] at OV hlen ⊢
      have hN9 : N ≤ 1000 := by omega
      have K1 := mk80 N hN9
      have K2 := mk22 N hN9
      have HLN := Lib.hid hN
      clear hN
      obtain ⟨W4, rfl⟩ : ∃ W, W = wr := ⟨_, rfl⟩
      have HVR := Lib.hid (fun U (gg : Gr W4 U) => (show RD 1 NC U (some ⟨g, 0, none⟩) V0 from by
        obtain ⟨A, c', e, hr, -⟩ := OV.out.form2 NC_len
        obtain ⟨rfl, -, -⟩ := Value.slice.inj e
        exact hr.gr gg))
      have HVB := Lib.hid (show g < W4.heap.size from (OV.out.lt g rfl).2)
      have GW := Lib.hid (G4.out.trans GU.out)
      have HB3 := Lib.hid (fun U (gg : Gr W4 U) => cell3 (gr_h (GU.out.trans gg) HP7.out))
      have HB4 := Lib.hid (fun U (gg : Gr W4 U) => cell3 (gr_h (GU.out.trans gg) HP8.out))
      have HSZ := Lib.hid (show W.heap.size + 2 < W4.heap.size from Nat.lt_of_lt_of_le HE4.out GU.out.size)
      clear OV GU HP1 HP2 HP3 HP4 HP5 HP6 HP7 HP8 O3 O4 O5 RY CX CY VX VY
      go_upto_region 14 with (fail)
      go_region_held3 (fun _ => True) (trivial) (fail)
      all_goals generalize hW5 : World.drew (World.alloc (World.alloc (World.alloc W4 _) _) _) = W5
      all_goals obtain ⟨ib, tb, HU0⟩ : ∃ ib tb, Hid (UpI W4 (W4.heap.size + 1 + 1) ib tb (some ⟨g, 0, none⟩) c N 0 (.slice none 0 0) W5) := by first | exact ⟨_, _, Lib.hid (up_one hW5)⟩ | exact ⟨_, _, Lib.hid (up_two hW5)⟩
      all_goals clear hW5 K1 K2 BB GE HB1 HB2 HB5 p0 p1 p2 q0 q1 q2 HE1 HE2 HE3 HE4 S4 G1 G2 G3 g23 UV LX LY HM HV hk hlt hlen
      all_goals obtain ⟨sp, hsp⟩ : ∃ s, W4.heap.size + 1 + 1 = s := ⟨_, rfl⟩
      all_goals rw [hsp] at HU0 ⊢
      all_goals have HSP := Lib.hid hsp
      all_goals clear hsp
      all_goals (
        go_wp2
        go_loopw [13] (fun i U => ∃ k : Nat, i = .int .i64 k ∧ k ≤ N ∧ Hid (∃ A1 c1, UpI W4 sp ib tb (some ⟨g, 0, none⟩) c N k (.slice A1 k c1) U)) (fun i _ => N - (intOf i).toNat)
        case atStart => exact ⟨0, rfl, Nat.zero_le _, Lib.hid ⟨none, 0, HU0.out⟩⟩
        case round =>
          clear HU0
          obtain ⟨k, rfl, hk, HR⟩ := hrel
          obtain ⟨A1, c1', hu⟩ := HR.out
          have HU := Lib.hid hu
          obtain ⟨⟨-, q1, -⟩, fz⟩ := hu.hd
          have z1 := fz 1
          clear hu fz HR
          by_cases hlt : k < N
          · have HO := Lib.hid (HU.out.o.alloc (.cells #[iv k] 3))
            have HS := Lib.hid (show sp + 1 ≤ (wr.alloc (.cells #[iv k] 3)).heap.size from by have := heap_lt HU.out.h; simp; omega)
            go_wp2_with (first | (at_builtin; refine wpList_appNP _ rfl (.tmp 65) (.tmp 67) rfl (sp + 1) rfl HO.out (M := [(k : Int)]) rfl rfl (rd_cells (t := 3) NC_len (al_new _ _)) (by simp) (by rw [upl_len]; simp; omega) HS.out ?_; intro v7 w7 o7 g7 b7; obtain ⟨A7, c7, rfl⟩ := upi_val o7; have O7 := Lib.hid o7; have G7 := Lib.hid g7; obtain ⟨q7, fz7⟩ := HU.out.mid g7; have z7 := fz7 1; clear o7 g7 b7 fz7))
            exact ⟨⟨k + 1, by simp, hlt, Lib.hid ⟨A7, c7, HU.out.step O7.out G7.out⟩⟩, by simp [intOf]; omega⟩
          · obtain rfl : N = k := by omega
            obtain ⟨R0, rfl⟩ : ∃ R, R = wr := ⟨_, rfl⟩
            have hu2 := HU.out
            have hN2 := HLN.out
            obtain ⟨b, B, hbs, hB, hA0, SM⟩ := (show UpI W4 sp ib tb (some ⟨g, 0, none⟩) c V0.length V0.length (.slice A1 V0.length c1') R0 from by rw [hN2]; exact hu2).smem (by rw [← HVV.out]; exact uvs_nodup _ _) (by omega) (HVR.out _ hu2.gr) (fun a e => by cases e; exact HVB.out) (B0 := W.heap.size) (by have := HSZ.out; omega)
            obtain ⟨sp', hsp'⟩ : ∃ s, sp = s := ⟨_, rfl⟩
            obtain rfl := hbs
            have SMH := Lib.hid SM
            have HB := Lib.hid hB
            have HA0 := Lib.hid hA0
            have TX := Lib.hid (show TG B V0 x R0 from ⟨TRd.gr HX.out (GW.out.trans HU.out.gr), (TRd.tin HX.out).mono (fun k hk => Nat.lt_of_lt_of_le hk HB.out), by rw [← HVV.out]; exact (uvs_gv (ck_cke HCX.out).1 (ck_cke HCY.out).1).1⟩)
            have TY := Lib.hid (show TG B V0 y R0 from ⟨TRd.gr HY.out (GW.out.trans HU.out.gr), (TRd.tin HY.out).mono (fun k hk => Nat.lt_of_lt_of_le hk HB.out), by rw [← HVV.out]; exact (uvs_gv (ck_cke HCX.out).1 (ck_cke HCY.out).1).2⟩)
            obtain ⟨f, r, S, he, hwf, hno, hyes⟩ := ref_solve (ck_cke HCX.out).1 (ck_cke HCY.out).1
            rw [HVV.out] at he hwf hyes
            have ce := eqs_any b B V0 f (SS0 V0) _ R0 x y r S SMH.out TX.out TY.out he
            unfold Ty.v at ce
            have CE := Lib.hid ce
            have HNO := Lib.hid hno
            have HYES := Lib.hid hyes
            have HWF := Lib.hid hwf
            obtain ⟨⟨p0, p1, p2⟩, -⟩ := HB3.out _ HU.out.gr
            obtain ⟨⟨q0, q1', q2⟩, -⟩ := HB4.out _ HU.out.gr
            have GU0 := Lib.hid (GW.out.trans HU.out.gr)
            have LO := Lib.hid (show W.heap.size ≤ b.ub ∧ W.heap.size ≤ b.ib ∧ W.heap.size ≤ b.tb from by have := SMH.out.lo; omega)
            clear hu2 hN2 SM hB hA0 he hwf hno hyes ce q1 z1 hk hlt HVR HVB HB3 HB4 hsp'
            cases r with
            | false =>
              go_wp2_with (first | (go_at_call 50; (with_reducible refine CE.out.mono ?_); rintro e z2 ⟨rfl, L3', h3, g3, x3⟩; have G3 := Lib.hid g3; clear h3 g3 x3))
              go_ret2
              rw [uans_no HCX.out HCY.out (HNO.out trivial)]
              exact asp_of (unp_emp (sgr_gr GU0.out G3.out LO.out.1 LO.out.2.1 LO.out.2.2))
            | true =>
              go_upto_region 21 with (first | (go_at_call 50; (with_reducible refine CE.out.mono ?_); rintro e z2 ⟨rfl, L3', h3, g3, x3⟩; have G3 := Lib.hid g3; have H4 := Lib.hid h3; clear h3 g3 x3))
              obtain ⟨m, hm, hg⟩ := HYES.out trivial
              have HM := Lib.hid hm
              have HG := Lib.hid hg
              have GZ := Lib.hid (sgr_gr GU0.out G3.out LO.out.1 LO.out.2.1 LO.out.2.2)
              have UO := Lib.hid (show uans x.er y.er = uout m V0 from by rw [uans_ok HCX.out HCY.out hg, ← HVV.out]; rfl)
              have GVR := Lib.hid (fun n (hn : n ∈ V0) => show GV V0 (vr n) from by rw [← HVV.out] at hn ⊢; exact uvs_gvr (ck_cke HCX.out).1 (ck_cke HCY.out).1 hn)
              have L30 := Lib.hid (show L3 z2 m V0 0 (.slice none 0 0) z2 from ⟨gr_refl _, by simp, [], OR.nil, rfl, by simp⟩)
              clear HNO HYES CE p0 p1 p2 q0 q1' q2 TX TY SMH HU hm hg GU0 G3 LO HX HY HCX HCY
              generalize R : (uans x.er y.er).fst = ua at *
              generalize R2 : (uans x.er y.er).snd = ub at *
              obtain ⟨rfl, rfl⟩ : ua = (uout m V0).1 ∧ ub = (uout m V0).2 := by rw [← R, ← R2, UO.out]; exact ⟨rfl, rfl⟩
              clear R R2 UO HVV
              obtain ⟨be, hbe⟩ : ∃ k, W.heap.size + 1 + 1 = k := ⟨_, rfl⟩
              rw [hbe]
              clear hbe
              go_wp2
              go_loopw [6, 14] (fun v i U => ∃ k : Nat, k ≤ N ∧ i = .int .i64 k ∧ Hid (∃ u, OE be u v ∧ L3 z2 m V0 k u U)) (fun _ i _ => N - (intOf i).toNat)
              case atStart => exact ⟨0, Nat.zero_le _, rfl, Lib.hid ⟨_, .inr ⟨rfl, rfl⟩, L30.out⟩⟩
              case round =>
                clear L30
                obtain ⟨k, hk, rfl, HI⟩ := hrel
                obtain ⟨R1, rfl⟩ : ∃ R, R = wr := ⟨_, rfl⟩
                obtain ⟨u, hE, hL⟩ := HI.out
                have HE := Lib.hid hE
                have HL := Lib.hid hL
                clear hE hL HI
                by_cases hlt : k < N
                · have hk2 : k < V0.length := by rw [HLN.out]; exact hlt
                  have SR := Lib.hid (fun U (gg : Gr R1 U) => H4.out.gr (HL.out.gr.trans gg))
                  obtain ⟨a, ha, r0⟩ := (SR.out _ (gr_refl _)).vc hk2
                  rw [HA0.out] at ha
                  obtain rfl := Option.some.inj ha
                  have HNV := Lib.hid (vat_at hk2)
                  have hmem := vat_mem hk2
                  obtain ⟨nv, hnv⟩ : ∃ n, vat V0 k = n := ⟨_, rfl⟩
                  rw [hnv, add0] at r0
                  rw [hnv] at HNV hmem
                  obtain ⟨f', t, kk, e1, hfl⟩ := fl_ok HWF.out HM.out (2 * (m nv).size + 1) (vr nv) (GVR.out nv hmem) (by rw [rep_vr]; split <;> omega) 200
                  have hkk := hfl.k
                  have htt := hfl.x
                  rw [rep_vr] at hkk htt
                  have HTT := Lib.hid htt
                  have CF := Lib.hid (fun U (gg : Gr R1 U) => show Calls Try.prog 51 #[.pointer (some ⟨b.sp, 0, none⟩), .agg #[iv 5, iv nv, .slice none 0 0], iv 200] U (FuR B t kk U) from by
                    have h := full_any b B V0 S L3' f' U (yk 5 nv) 200 t kk (SR.out U gg) ⟨TRd.nil _, TIn.nil, GVR.out nv hmem⟩ (Nat.le_refl _) e1
                    exact h)
                  have HGV := Lib.hid (GVR.out nv hmem)
                  have HMEM := Lib.hid hmem
                  have hk201 : kk ≤ 201 := by omega
                  have HKK := Lib.hid hkk
                  clear ha hfl e1 htt hkk hmem hk2 hnv
                  go_upto_region 25 with (first | (go_at_call 26; (with_reducible refine (var_any _ _).mono ?_); rintro e w5 ⟨rfl, g5⟩; have G5 := Lib.hid g5; clear g5) | (go_at_call 51; (with_reducible refine (CF.out _ G5.out).mono ?_); rintro e w6 ⟨⟨q, rfl, qr, qi, qe⟩, g6⟩; have G6 := Lib.hid g6; have QR := Lib.hid qr; have QI := Lib.hid qi; have QE := Lib.hid qe; clear g6 qr qi qe))
                  have HBX := Lib.hid (al_new w6 (.cells #[.int .i64 q.kind, .int .i64 q.var, .slice q.A q.sub.length q.c] 24))
                  have G7 := Lib.hid (G6.out.trans (gr_al w6 (.cells #[.int .i64 q.kind, .int .i64 q.var, .slice q.A q.sub.length q.c] 24)))
                  have QR7 := Lib.hid (TRd.gr QR.out (gr_al w6 (.cells #[.int .i64 q.kind, .int .i64 q.var, .slice q.A q.sub.length q.c] 24)))
                  generalize hW7 : World.alloc w6 _ = W7 at *
                  obtain ⟨k7, hk7⟩ : ∃ k, w6.heap.size = k := ⟨_, rfl⟩
                  rw [hk7] at HBX ⊢
                  have HS7 := Lib.hid (show w6.heap.size = k7 from hk7)
                  clear hW7 hk7
                  have GR7 := Lib.hid (G5.out.trans G7.out)
                  have HZZ := Lib.hid (GZ.out.trans (HL.out.gr.trans GR7.out))
                  by_cases hbig : 200 < kk
                  · have HGT := Lib.hid (show 200 < (m nv).size from by have := HKK.out; omega)
                    clear r0
                    go_wp2
                    go_ret2
                    rw [uout_great HMEM.out HGT.out]
                    exact asp_of (unp_emp (HZZ.out.trans (gr_al _ _)))
                  · have hsz : (m nv).size ≤ 200 := by have := HKK.out; omega
                    have HSZ2 := Lib.hid hsz
                    have QE2 := Lib.hid (QE.out.trans (HTT.out hsz))
                    have hKk : (m nv).kind = q.kind := by rw [← QE2.out, er_kind]
                    have hVv : (m nv).var = q.var := by rw [← QE2.out]; cases q; rfl
                    obtain ⟨qk, hqk⟩ : ∃ z, q.kind = z := ⟨_, rfl⟩
                    obtain ⟨qv, hqv⟩ : ∃ z, q.var = z := ⟨_, rfl⟩
                    have r7 := gr_c GR7.out r0
                    obtain ⟨⟨b0, b1, b2⟩, -⟩ := cell3 HBX.out
                    have HKK2 := Lib.hid (show (m nv).kind = qk ∧ (m nv).var = qv from ⟨hKk.trans hqk, hVv.trans hqv⟩)
                    have HQQ := Lib.hid (show q.kind = qk ∧ q.var = qv from ⟨hqk, hqv⟩)
                    rw [hqk] at b0
                    rw [hqv] at b1
                    clear r0 hsz hKk hVv hqk hqv HKK HTT
                    by_cases hkv : qk = 5 ∧ qv = nv
                    · have HSK := Lib.hid (show (m nv).kind = 5 ∧ (m nv).var = nv from by rw [HKK2.out.1, HKK2.out.2]; exact hkv)
                      obtain ⟨rfl, rfl⟩ := hkv
                      go_upto_region 27 with (fail)
                      go_quiet (fail)
                      go_wp2
                      exact ⟨⟨k + 1, hlt, by simp, Lib.hid ⟨u, HE.out, (HL.out.skip HNV.out HSZ2.out HSK.out).grow (GR7.out.trans (gr_drewN _ _))⟩⟩, by simp [intOf]; omega⟩
                    · have HNE := Lib.hid (show ¬ ((m nv).kind = 5 ∧ (m nv).var = nv) from by rw [HKK2.out.1, HKK2.out.2]; exact hkv)
                      by_cases hk5 : qk = 5
                      · have hb : (qv != nv) = true := by simp; intro e; exact hkv ⟨hk5, e⟩
                        subst hk5
                        clear hkv
                        go_upto_region 27 with (fail)
                        go_quiet (fail)
                        generalize hW8 : World.drewN W7 _ = W8
                        have G8 := Lib.hid (show Gr W7 W8 from by rw [← hW8]; exact gr_drewN _ _)
                        clear hW8
                        have r8 := gr_c G8.out r7
                        have c0 := gr_c G8.out b0
                        have c1 := gr_c G8.out b1
                        have c2 := gr_c G8.out b2
                        clear r7 b0 b1 b2
                        obtain ⟨L, hO, hEm, hLp⟩ := HL.out.ex
                        have HO := Lib.hid (hO.gr (GR7.out.trans (G8.out.trans (gr_al W8 (.cells #[iv nv, iv 5, iv qv, .slice q.A q.sub.length q.c] 43)))))
                        have HOO := Lib.hid hO
                        have HEM := Lib.hid hEm
                        have HLP := Lib.hid hLp
                        have HL9 := Lib.hid (show L.length ≤ 1000 from by have := l3_len hEm; have := HLN.out; omega)
                        have HS8 := Lib.hid (show z2.heap.size ≤ (W8.alloc (.cells #[iv nv, iv 5, iv qv, .slice q.A q.sub.length q.c] 43)).heap.size from by have := HL.out.gr.size; have := GR7.out.size; have := G8.out.size; simp; omega)
                        clear hO hEm hLp
                        go_upto_region 28 with (fail)
                        go_region_law (first | (refine step_appE rfl (.tmp 108) (.tmp 115) rfl z2.heap.size rfl HE.out HO.out (A := some ⟨W8.heap.size, 0, none⟩) (M := [⟨nv, .mk 5 qv q.A q.c q.sub⟩]) (m := 1) (c := 1) rfl rfl (rd_cells (t := 43) As.cs_len (al_new _ _)) (by simp) (by decide) (by have := HL9.out; simp; omega) HS8.out ?_; intro v7 w7 o7 g7 b7; have O7 := Lib.hid o7; have G9 := Lib.hid g7; have B7 := Lib.hid b7; clear o7 g7 b7))
                        all_goals go_wp2
                        all_goals have hq3 : Ty.mk 5 qv q.A q.c q.sub = q := by have h := HQQ.out; cases q; simp only [Ty.kind, Ty.var] at h; rw [← h.1, ← h.2]; rfl
                        all_goals have o7 := O7.out
                        all_goals rw [hq3] at o7
                        all_goals exact ⟨⟨k + 1, hlt, by simp, Lib.hid ⟨_, .inl rfl, (HL.out.step HNV.out HSZ2.out HNE.out HOO.out HEM.out HLP.out G5.out.size (GR7.out.trans G8.out) (TRd.gr QR7.out G8.out) QI.out QE2.out o7 ((World.grownBy.but (gr_drew _) _).trans G9.out) B7.out)⟩⟩, by simp [intOf]; omega⟩
                      · have hb : (qk != 5) = true := by simpa using hk5
                        clear hkv hk5
                        go_upto_region 27 with (fail)
                        go_quiet (fail)
                        generalize hW8 : World.drewN W7 _ = W8
                        have G8 := Lib.hid (show Gr W7 W8 from by rw [← hW8]; exact gr_drewN _ _)
                        clear hW8
                        have r8 := gr_c G8.out r7
                        have c0 := gr_c G8.out b0
                        have c1 := gr_c G8.out b1
                        have c2 := gr_c G8.out b2
                        clear r7 b0 b1 b2
                        obtain ⟨L, hO, hEm, hLp⟩ := HL.out.ex
                        have HO := Lib.hid (hO.gr (GR7.out.trans (G8.out.trans (gr_al W8 (.cells #[iv nv, iv qk, iv qv, .slice q.A q.sub.length q.c] 43)))))
                        have HOO := Lib.hid hO
                        have HEM := Lib.hid hEm
                        have HLP := Lib.hid hLp
                        have HL9 := Lib.hid (show L.length ≤ 1000 from by have := l3_len hEm; have := HLN.out; omega)
                        have HS8 := Lib.hid (show z2.heap.size ≤ (W8.alloc (.cells #[iv nv, iv qk, iv qv, .slice q.A q.sub.length q.c] 43)).heap.size from by have := HL.out.gr.size; have := GR7.out.size; have := G8.out.size; simp; omega)
                        clear hO hEm hLp
                        go_upto_region 28 with (fail)
                        go_region_law (first | (refine step_appE rfl (.tmp 108) (.tmp 115) rfl z2.heap.size rfl HE.out HO.out (A := some ⟨W8.heap.size, 0, none⟩) (M := [⟨nv, .mk qk qv q.A q.c q.sub⟩]) (m := 1) (c := 1) rfl rfl (rd_cells (t := 43) As.cs_len (al_new _ _)) (by simp) (by decide) (by have := HL9.out; simp; omega) HS8.out ?_; intro v7 w7 o7 g7 b7; have O7 := Lib.hid o7; have G9 := Lib.hid g7; have B7 := Lib.hid b7; clear o7 g7 b7))
                        all_goals go_wp2
                        all_goals have hq3 : Ty.mk qk qv q.A q.c q.sub = q := by have h := HQQ.out; cases q; simp only [Ty.kind, Ty.var] at h; rw [← h.1, ← h.2]; rfl
                        all_goals have o7 := O7.out
                        all_goals rw [hq3] at o7
                        all_goals exact ⟨⟨k + 1, hlt, by simp, Lib.hid ⟨_, .inl rfl, (HL.out.step HNV.out HSZ2.out HNE.out HOO.out HEM.out HLP.out G5.out.size (GR7.out.trans G8.out) (TRd.gr QR7.out G8.out) QI.out QE2.out o7 ((World.grownBy.but (gr_drew _) _).trans G9.out) B7.out)⟩⟩, by simp [intOf]; omega⟩
                · obtain rfl : N = k := by omega
                  have HLE := Lib.hid (show V0.length ≤ N from by rw [HLN.out]; exact Nat.le_refl _)
                  go_wp2
                  go_ret2
                  exact asp_oe HE.out (asp_of (HL.out.done HLE.out (GZ.out.trans HL.out.gr) GZ.out.size (gr_refl _))))
theorem runify_asp (x y : Ty) (w : World) (hx : x.Rd w) (hy : y.Rd w) : Calls Try.prog 15 #[x.v, y.v] w (AsP w (uans x.er y.er).1 (uans x.er y.er).2) := by
  by_cases h1 : ck x.er = 0
  · by_cases h2 : ck y.er = 0
    · exact runify_go x y w hx hy h1 h2
    · exact (runify_bad2 x y w hx hy h1 h2).mono fun e w' h => asp_of h
  · exact (runify_bad1 x y w hx h1).mono fun e w' h => asp_of h
end Go.Proofs.Ytjlmhfdigoogfaa
