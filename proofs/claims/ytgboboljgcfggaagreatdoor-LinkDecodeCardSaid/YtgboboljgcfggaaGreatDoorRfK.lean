/- Walk: the reference reads a block. -/
import Derived.Test.YtgboboljgcfggaaGreatDoorRfW
namespace Go.Proofs.YtgboboljgcfggaaGreatDoor
open Go.RowKit

attribute [local irreducible] Calls in
set_option maxRecDepth 100000 in
set_option maxHeartbeats 8000000 in
theorem rrblock_any (s : RS) (V : World) (hl : s.rest.length ≤ 100000) : Calls Tryz.prog 28 #[.agg #[.string ⟨s.rest.toArray⟩, .bool s.bad]] V (RkP s V) := by
  obtain ⟨cap, s1, e1⟩ : ∃ n s', rdN s = (n, s') := ⟨_, _, rfl⟩
  obtain ⟨pn, s2, e2⟩ : ∃ n s', rdN s1 = (n, s') := ⟨_, _, rfl⟩
  obtain ⟨n, s3, e4⟩ : ∃ n s', rdN s2 = (n, s') := ⟨_, _, rfl⟩
  have E := Lib.hid (show rdB false s = (⟨cap, pn == 1, (rdL (rdI false) n.toNat s3 []).1⟩, (rdL (rdI false) n.toNat s3 []).2) from by unfold rdB; simp only [e1, e2, Bool.false_and, flag_false, e4])
  have nn := rdN_nn s2
  have n4 := rdN_le s2
  rw [e4] at nn n4
  simp only at nn n4
  have q1 := (rdN_con s).1
  have q2 := (rdN_con s1).1
  have q3 := (rdN_con s2).1
  rw [e1] at q1
  rw [e2] at q2
  rw [e4] at q3
  simp only at q1 q2 q3
  have R1 := Lib.hid (fun W => show Calls Tryz.prog 27 #[.agg #[.string ⟨s.rest.toArray⟩, .bool s.bad]] W (RrP (iv cap) s1 W) from by have := rrnum_any s W (by omega); rwa [e1] at this)
  have R2 := Lib.hid (fun W => show Calls Tryz.prog 27 #[.agg #[.string ⟨s1.rest.toArray⟩, .bool s1.bad]] W (RrP (iv pn) s2 W) from by have := rrnum_any s1 W (by omega); rwa [e2] at this)
  have R3 := Lib.hid (fun W => show Calls Tryz.prog 27 #[.agg #[.string ⟨s2.rest.toArray⟩, .bool s2.bad]] W (RrP (iv n) s3 W) from by have := rrnum_any s2 W (by omega); rwa [e4] at this)
  have HL4 := Lib.hid (show s3.rest.length ≤ 100000 from by omega)
  clear q1 q2 q3 e1 e2 e4 hl
  have D0 := Lib.hid (show DK V V.heap.size 0 false s (.slice none 0 0) [] ((((V.alloc (.cells #[.string ⟨s.rest.toArray⟩, .bool s.bad] 82)).alloc (.cells #[.int .i64 0, .bool false, .slice none 0 0] 69)).alloc (.cells #[.string ⟨#[]⟩, .bool false] 82)).alloc (.cells #[.int .i64 0, .bool false, .slice none 0 0] 69)) from by
    refine ⟨?_, ?_, ?_, ?_, OR.nil, (((gr_al _ _).trans (gr_al _ _)).trans (gr_al _ _)).trans (gr_al _ _), rfl, by simp⟩
    · exact gr_h (((gr_al _ _).trans (gr_al _ _)).trans (gr_al _ _)) (al_new _ _)
    · exact gr_h ((gr_al _ _).trans (gr_al _ _)) (al_at _ _ (by simp))
    · exact gr_h (gr_al _ _) (al_at _ _ (by simp))
    · exact al_at _ _ (by simp))
  go_enter Tryz.func28, Tryz.ntmps28
  go_upto_region 2 with fail
  obtain ⟨rb, hrb⟩ : ∃ k, V.heap.size = k := ⟨_, rfl⟩
  rw [hrb] at D0
  (try rw [hrb])
  clear hrb
  rw [show rb + 1 + 1 + 1 = rb + 3 from rfl, show rb + 1 + 1 = rb + 2 from rfl]
  generalize ((((V.alloc (.cells #[.string ⟨s.rest.toArray⟩, .bool s.bad] 82)).alloc (.cells #[.int .i64 0, .bool false, .slice none 0 0] 69)).alloc (.cells #[.string ⟨#[]⟩, .bool false] 82)).alloc (.cells #[.int .i64 0, .bool false, .slice none 0 0] 69)) = V0 at *
  obtain ⟨c0, c1, f0, f1⟩ := D0.out.c
  obtain ⟨b1, -, -, b0, -, -⟩ := D0.out.cb
  go_upto_region 3 with (go_at_call 27; refine (R1.out _).mono ?_; rintro e V1 ⟨rfl, g⟩; have G := Lib.hid g; have D9 := Lib.hid (D0.out.gr G.out); clear g; obtain ⟨p0, p1, p2, p3⟩ := (D9.out).c; obtain ⟨p4, p5, p6, p7, p8, p9⟩ := D9.out.cb)
  have D1 := Lib.hid (show DK V rb cap false s1 (.slice none 0 0) [] (((V1.setCell ⟨rb + 3, 0, none⟩ (.int .i64 cap)).setCell ⟨rb, 0, none⟩ (.string ⟨s1.rest.toArray⟩)).setCell ⟨rb, 1, none⟩ (.bool s1.bad)) from ((D0.out.gr G.out).scap cap).rd s1)
  clear c0 c1 f0 f1 b0 b1 p0 p1 p2 p3 p4 p5 p6 p7 p8 p9 D9
  generalize (((V1.setCell ⟨rb + 3, 0, none⟩ (.int .i64 cap)).setCell ⟨rb, 0, none⟩ (.string ⟨s1.rest.toArray⟩)).setCell ⟨rb, 1, none⟩ (.bool s1.bad)) = V2 at *
  clear G D0
  obtain ⟨c0, c1, f0, f1⟩ := D1.out.c
  go_upto_region 4 with (go_at_call 27; refine (R2.out _).mono ?_; rintro e V3 ⟨rfl, g⟩; have G := Lib.hid g; have D9 := Lib.hid (D1.out.gr G.out); clear g; obtain ⟨p0, p1, p2, p3⟩ := (D9.out).c; obtain ⟨p4, p5, p6, p7, p8, p9⟩ := D9.out.cb)
  have D2 := Lib.hid (show DK V rb cap false s2 (.slice none 0 0) [] ((V3.setCell ⟨rb, 0, none⟩ (.string ⟨s2.rest.toArray⟩)).setCell ⟨rb, 1, none⟩ (.bool s2.bad)) from (D1.out.gr G.out).rd s2)
  clear c0 c1 f0 f1 p0 p1 p2 p3 p4 p5 p6 p7 p8 p9 D9
  generalize ((V3.setCell ⟨rb, 0, none⟩ (.string ⟨s2.rest.toArray⟩)).setCell ⟨rb, 1, none⟩ (.bool s2.bad)) = V4 at *
  clear G D1
  obtain ⟨-, b0, -, -, b1, -⟩ := D2.out.cb
  go_upto_region 5 with fail
  have D3 := Lib.hid (D2.out.spm (pn == 1))
  clear b0 b1 D2
  generalize V4.setCell ⟨rb + 3, 1, none⟩ (.bool (pn == 1)) = V5 at *
  obtain ⟨c0, c1, f0, f1⟩ := D3.out.c
  go_upto_region 6 with (go_at_call 27; refine (R3.out _).mono ?_; rintro e V6 ⟨rfl, g⟩; have G := Lib.hid g; have D9 := Lib.hid (D3.out.gr G.out); clear g; obtain ⟨p0, p1, p2, p3⟩ := (D9.out).c; obtain ⟨p4, p5, p6, p7, p8, p9⟩ := D9.out.cb)
  have D4 := Lib.hid (show DK V rb cap (pn == 1) s3 (.slice none 0 0) [] ((V6.setCell ⟨rb, 0, none⟩ (.string ⟨s3.rest.toArray⟩)).setCell ⟨rb, 1, none⟩ (.bool s3.bad)) from (D3.out.gr G.out).rd s3)
  clear c0 c1 f0 f1 p0 p1 p2 p3 p4 p5 p6 p7 p8 p9 D9
  generalize ((V6.setCell ⟨rb, 0, none⟩ (.string ⟨s3.rest.toArray⟩)).setCell ⟨rb, 1, none⟩ (.bool s3.bad)) = V7 at *
  clear G D3
  go_wp2
  go_loopw [7] (fun u W => ∃ (j : Nat) (A1 : Option Addr) (m1 cc : Nat) (L : List Ins) (s' : RS), (j : Int) ≤ 1099511627776 ∧ u = .int .i64 j ∧ L.length = m1 ∧ Hid (DK V rb cap (pn == 1) s' (.slice A1 m1 cc) L W ∧ LRS (rdI false) n s3 j L s')) (fun _ W => msrAt rb W)
  case atStart => exact ⟨0, none, 0, 0, [], s3, by omega, rfl, rfl, Lib.hid ⟨D4.out, LRS.start nn⟩⟩
  case round =>
    obtain ⟨j, A1, m1, cc, L, s', hj, rfl, hm, HX⟩ := hrel
    have HM := Lib.hid hm
    clear hm
    obtain ⟨x0, x1, g0, g1⟩ := HX.out.1.c
    by_cases hlt : (j : Int) < n
    · cases hbad : s'.bad with
      | false =>
        rw [hbad] at x1
        obtain ⟨rest, bad⟩ := s'
        simp only at hbad
        subst hbad
        have hls := HX.out.2.l
        simp only [Bool.false_eq_true, if_false] at hls
        obtain ⟨n1, u1, e1⟩ : ∃ n s', rdN ⟨rest, false⟩ = (n, s') := ⟨_, _, rfl⟩
        obtain ⟨n2, u2, e2⟩ : ∃ n s', rdN u1 = (n, s') := ⟨_, _, rfl⟩
        obtain ⟨n3, u3, e3⟩ : ∃ n s', rdN u2 = (n, s') := ⟨_, _, rfl⟩
        obtain ⟨t4, u4, e4⟩ : ∃ n s', rdT u3 = (n, s') := ⟨_, _, rfl⟩
        obtain ⟨sg, hsg⟩ : ∃ z, sgn n2 = z := ⟨_, rfl⟩
        have EI := Lib.hid (show rdI false ⟨rest, false⟩ = (⟨n1, sg, n3, t4⟩, u4) from by
          unfold rdI
          simp only [e1, e2, Bool.false_and, flag_false, e3, e4, hsg])
        have q1 := (rdN_con ⟨rest, false⟩).1
        have q2 := (rdN_con u1).1
        have q3 := (rdN_con u2).1
        have nn2 := rdN_nn u1
        have nl2 := rdN_le u1
        rw [e1] at q1
        rw [e2] at q2 nn2 nl2
        rw [e3] at q3
        simp only at q1 q2 q3 nn2 nl2
        have hl4 := HL4.out
        have C1 := Lib.hid (fun W => show Calls Tryz.prog 27 #[.agg #[.string ⟨rest.toArray⟩, .bool false]] W (RrP (iv n1) u1 W) from by have := rrnum_any ⟨rest, false⟩ W (by show rest.length ≤ _; omega); rwa [e1] at this)
        have C2 := Lib.hid (fun W => show Calls Tryz.prog 27 #[.agg #[.string ⟨u1.rest.toArray⟩, .bool u1.bad]] W (RrP (iv n2) u2 W) from by have := rrnum_any u1 W (by omega); rwa [e2] at this)
        have C3 := Lib.hid (fun W => show Calls Tryz.prog 27 #[.agg #[.string ⟨u2.rest.toArray⟩, .bool u2.bad]] W (RrP (iv n3) u3 W) from by have := rrnum_any u2 W (by omega); rwa [e3] at this)
        have C4 := Lib.hid (fun W => show Calls Tryz.prog 29 #[.agg #[.string ⟨u3.rest.toArray⟩, .bool u3.bad]] W (RrP (.string ⟨t4.toArray⟩) u4 W) from by have := rrtext_any u3 W (by omega); rwa [e4] at this)
        have HLL := Lib.hid (show L.length + 1 ≤ 1000000 from by omega)
        have NX := Lib.hid (show LRS (rdI false) n s3 (j + 1) (L ++ [⟨n1, sg, n3, t4⟩]) u4 from by have h := HX.out.2.next (rdI_con false _) hlt rfl; rwa [EI.out] at h)
        have ML := Lib.hid (show msr u4 < msr ⟨rest, false⟩ from by have h := msr_lt (rdI_con false ⟨rest, false⟩) rfl; rwa [EI.out] at h)
        have MS := Lib.hid (msrAt_eqR HX.out.1.r)
        have HSG := Lib.hid hsg
        clear e1 e2 e3 e4 q1 q2 q3 hl4 hls hsg
        go_upto_region 10 with fail
        have I0 := Lib.hid HX.out.1.ins
        obtain ⟨ky, hky⟩ : ∃ k, wr.heap.size = k := ⟨_, rfl⟩
        rw [hky] at I0 ⊢
        clear hky HX x0 x1 g0 g1
        generalize wr.alloc (.cells #[.int .i64 0, .int .i64 0, .int .i64 0, .string ⟨#[]⟩] 71) = W0 at *
        obtain ⟨c0, c1, f0, f1⟩ := I0.out.d.c
        obtain ⟨-, -, -, -, h0, -, -, -, ne1, ne2⟩ := I0.out.c
        go_upto_region 11 with (go_at_call 27; refine (C1.out _).mono ?_; rintro e w1 ⟨rfl, g⟩; have G := Lib.hid g; have D9 := Lib.hid (I0.out.gr G.out); clear g; obtain ⟨p0, p1, p2, p3⟩ := (D9.out.d).c; obtain ⟨p4, p5, p6, p7, p8, p9, pa, pb, -, -⟩ := D9.out.c)
        have I1 := Lib.hid (show DKI V rb cap (pn == 1) u1 (.slice A1 m1 cc) L ky (.int .i64 n1) (.int .i64 0) (.int .i64 0) (.string ⟨#[]⟩) (((w1.setCell ⟨ky, 0, none⟩ (.int .i64 n1)).setCell ⟨rb, 0, none⟩ (.string ⟨u1.rest.toArray⟩)).setCell ⟨rb, 1, none⟩ (.bool u1.bad)) from ((I0.out.gr G.out).f0 (.int .i64 n1)).rd u1)
        clear c0 c1 f0 f1 h0 ne1 ne2 p0 p1 p2 p3 p4 p5 p6 p7 p8 p9 D9 pa pb
        generalize (((w1.setCell ⟨ky, 0, none⟩ (.int .i64 n1)).setCell ⟨rb, 0, none⟩ (.string ⟨u1.rest.toArray⟩)).setCell ⟨rb, 1, none⟩ (.bool u1.bad)) = W1 at *
        clear G I0
        obtain ⟨c0, c1, f0, f1⟩ := I1.out.d.c
        obtain ⟨-, -, -, -, -, h0, -, -, ne1, ne2⟩ := I1.out.c
        go_upto_region 12 with (go_at_call 27; refine (C2.out _).mono ?_; rintro e w2 ⟨rfl, g⟩; have G := Lib.hid g; have D9 := Lib.hid (I1.out.gr G.out); clear g; obtain ⟨p0, p1, p2, p3⟩ := (D9.out.d).c; obtain ⟨p4, p5, p6, p7, p8, p9, pa, pb, -, -⟩ := D9.out.c)
        have I2 := Lib.hid (show DKI V rb cap (pn == 1) u2 (.slice A1 m1 cc) L ky (.int .i64 n1) (.int .i64 n2) (.int .i64 0) (.string ⟨#[]⟩) (((w2.setCell ⟨ky, 1, none⟩ (.int .i64 n2)).setCell ⟨rb, 0, none⟩ (.string ⟨u2.rest.toArray⟩)).setCell ⟨rb, 1, none⟩ (.bool u2.bad)) from ((I1.out.gr G.out).f1 (.int .i64 n2)).rd u2)
        clear c0 c1 f0 f1 h0 ne1 ne2 p0 p1 p2 p3 p4 p5 p6 p7 p8 p9 D9 pa pb
        generalize (((w2.setCell ⟨ky, 1, none⟩ (.int .i64 n2)).setCell ⟨rb, 0, none⟩ (.string ⟨u2.rest.toArray⟩)).setCell ⟨rb, 1, none⟩ (.bool u2.bad)) = W2 at *
        clear G I1
        obtain ⟨-, h1, -, -, -, h0, -, -, -, -⟩ := I2.out.c
        have e6 : Int.tmod n2 2 = n2 % 2 := Int.tmod_eq_emod_of_nonneg nn2
        have e7 : Int.tdiv n2 2 = n2 / 2 := Int.tdiv_eq_ediv_of_nonneg nn2
        have ed : 0 ≤ n2 / 2 ∧ n2 / 2 ≤ 1099511627776 := by omega
        have I3 := Lib.hid (I2.out.f1 (.int .i64 sg))
        by_cases hod : n2 % 2 = 1
        · have e5 : (n2 % 2 == 1) = true := by simpa using hod
          have e4 := HSG.out
          unfold sgn at e4
          rw [if_pos hod] at e4
          subst e4
          clear hod HSG
          go_upto_region 15 with fail
          clear h0 h1 e5 e6 e7 I2
          generalize W2.setCell ⟨ky, 1, none⟩ (.int .i64 (-(n2 / 2))) = W3 at *
          obtain ⟨c0, c1, f0, f1⟩ := I3.out.d.c
          obtain ⟨-, -, -, -, -, -, h0, -, ne1, ne2⟩ := I3.out.c
          go_upto_region 16 with (go_at_call 27; refine (C3.out _).mono ?_; rintro e w3 ⟨rfl, g⟩; have G := Lib.hid g; have D9 := Lib.hid (I3.out.gr G.out); clear g; obtain ⟨p0, p1, p2, p3⟩ := (D9.out.d).c; obtain ⟨p4, p5, p6, p7, p8, p9, pa, pb, -, -⟩ := D9.out.c)
          have I4 := Lib.hid (show DKI V rb cap (pn == 1) u3 (.slice A1 m1 cc) L ky (.int .i64 n1) (.int .i64 (-(n2 / 2))) (.int .i64 n3) (.string ⟨#[]⟩) (((w3.setCell ⟨ky, 2, none⟩ (.int .i64 n3)).setCell ⟨rb, 0, none⟩ (.string ⟨u3.rest.toArray⟩)).setCell ⟨rb, 1, none⟩ (.bool u3.bad)) from ((I3.out.gr G.out).f2 (.int .i64 n3)).rd u3)
          clear c0 c1 f0 f1 h0 ne1 ne2 p0 p1 p2 p3 p4 p5 p6 p7 p8 p9 D9 pa pb
          generalize (((w3.setCell ⟨ky, 2, none⟩ (.int .i64 n3)).setCell ⟨rb, 0, none⟩ (.string ⟨u3.rest.toArray⟩)).setCell ⟨rb, 1, none⟩ (.bool u3.bad)) = W4 at *
          clear G I3
          obtain ⟨c0, c1, f0, f1⟩ := I4.out.d.c
          obtain ⟨-, -, -, -, -, -, -, h0, ne1, ne2⟩ := I4.out.c
          go_upto_region 17 with (go_at_call 29; refine (C4.out _).mono ?_; rintro e w4 ⟨rfl, g⟩; have G := Lib.hid g; have D9 := Lib.hid (I4.out.gr G.out); clear g; obtain ⟨p0, p1, p2, p3⟩ := (D9.out.d).c; obtain ⟨p4, p5, p6, p7, p8, p9, pa, pb, -, -⟩ := D9.out.c)
          have I5 := Lib.hid (show DKI V rb cap (pn == 1) u4 (.slice A1 m1 cc) L ky (.int .i64 n1) (.int .i64 (-(n2 / 2))) (.int .i64 n3) (.string ⟨t4.toArray⟩) (((w4.setCell ⟨ky, 3, none⟩ (.string ⟨t4.toArray⟩)).setCell ⟨rb, 0, none⟩ (.string ⟨u4.rest.toArray⟩)).setCell ⟨rb, 1, none⟩ (.bool u4.bad)) from ((I4.out.gr G.out).f3 (.string ⟨t4.toArray⟩)).rd u4)
          clear c0 c1 f0 f1 h0 ne1 ne2 p0 p1 p2 p3 p4 p5 p6 p7 p8 p9 D9 pa pb
          generalize (((w4.setCell ⟨ky, 3, none⟩ (.string ⟨t4.toArray⟩)).setCell ⟨rb, 0, none⟩ (.string ⟨u4.rest.toArray⟩)).setCell ⟨rb, 1, none⟩ (.bool u4.bad)) = W5 at *
          clear G I4
          obtain ⟨h0, h1, h2, h3, -, -, -, -, ne1, ne2⟩ := I5.out.c
          obtain ⟨-, -, b2, -, -, bf⟩ := I5.out.d.cb
          have F6 := Lib.hid (I5.out.d.gr (gr_al W5 (.cells #[.int .i64 n1, .int .i64 (-(n2 / 2)), .int .i64 n3, .string ⟨t4.toArray⟩] 71)))
          have HOA := Lib.hid F6.out.o
          have HBA := Lib.hid F6.out.lt.2
          go_wp2_with (at_builtin; refine wpList_app elI rfl (.tmp 78) (.tmp 80) rfl (rb + 4) rfl HOA.out (A := some ⟨W5.heap.size, 0, none⟩) (M := [⟨n1, (-(n2 / 2)), n3, t4⟩]) (m := 1) (c := 1) rfl rfl (rd_cells (t := 71) elI.hn (al_new _ _)) (by have := HLL.out; simp; omega) HBA.out ?_; intro v7 w7 o7 g7 b7; obtain ⟨A7, c7, rfl⟩ := app_ins HM.out o7; obtain ⟨-, y7, z7⟩ := F6.out.mid g7; have P7 := Lib.hid (F6.out.put g7 o7); clear o7 g7 b7)
          exact ⟨⟨j + 1, A7, m1 + 1, c7, L ++ [⟨n1, (-(n2 / 2)), n3, t4⟩], u4, by omega, by simp, by simp [HM.out], Lib.hid ⟨P7.out, NX.out⟩⟩, by rw [MS.out, msrAt_eqR P7.out.r]; exact ML.out⟩
        · have e5 : (n2 % 2 == 1) = false := by simpa using hod
          have e4 := HSG.out
          unfold sgn at e4
          rw [if_neg hod] at e4
          subst e4
          clear hod HSG
          go_upto_region 15 with fail
          clear h0 h1 e5 e6 e7 I2
          generalize W2.setCell ⟨ky, 1, none⟩ (.int .i64 (n2 / 2)) = W3 at *
          obtain ⟨c0, c1, f0, f1⟩ := I3.out.d.c
          obtain ⟨-, -, -, -, -, -, h0, -, ne1, ne2⟩ := I3.out.c
          go_upto_region 16 with (go_at_call 27; refine (C3.out _).mono ?_; rintro e w3 ⟨rfl, g⟩; have G := Lib.hid g; have D9 := Lib.hid (I3.out.gr G.out); clear g; obtain ⟨p0, p1, p2, p3⟩ := (D9.out.d).c; obtain ⟨p4, p5, p6, p7, p8, p9, pa, pb, -, -⟩ := D9.out.c)
          have I4 := Lib.hid (show DKI V rb cap (pn == 1) u3 (.slice A1 m1 cc) L ky (.int .i64 n1) (.int .i64 (n2 / 2)) (.int .i64 n3) (.string ⟨#[]⟩) (((w3.setCell ⟨ky, 2, none⟩ (.int .i64 n3)).setCell ⟨rb, 0, none⟩ (.string ⟨u3.rest.toArray⟩)).setCell ⟨rb, 1, none⟩ (.bool u3.bad)) from ((I3.out.gr G.out).f2 (.int .i64 n3)).rd u3)
          clear c0 c1 f0 f1 h0 ne1 ne2 p0 p1 p2 p3 p4 p5 p6 p7 p8 p9 D9 pa pb
          generalize (((w3.setCell ⟨ky, 2, none⟩ (.int .i64 n3)).setCell ⟨rb, 0, none⟩ (.string ⟨u3.rest.toArray⟩)).setCell ⟨rb, 1, none⟩ (.bool u3.bad)) = W4 at *
          clear G I3
          obtain ⟨c0, c1, f0, f1⟩ := I4.out.d.c
          obtain ⟨-, -, -, -, -, -, -, h0, ne1, ne2⟩ := I4.out.c
          go_upto_region 17 with (go_at_call 29; refine (C4.out _).mono ?_; rintro e w4 ⟨rfl, g⟩; have G := Lib.hid g; have D9 := Lib.hid (I4.out.gr G.out); clear g; obtain ⟨p0, p1, p2, p3⟩ := (D9.out.d).c; obtain ⟨p4, p5, p6, p7, p8, p9, pa, pb, -, -⟩ := D9.out.c)
          have I5 := Lib.hid (show DKI V rb cap (pn == 1) u4 (.slice A1 m1 cc) L ky (.int .i64 n1) (.int .i64 (n2 / 2)) (.int .i64 n3) (.string ⟨t4.toArray⟩) (((w4.setCell ⟨ky, 3, none⟩ (.string ⟨t4.toArray⟩)).setCell ⟨rb, 0, none⟩ (.string ⟨u4.rest.toArray⟩)).setCell ⟨rb, 1, none⟩ (.bool u4.bad)) from ((I4.out.gr G.out).f3 (.string ⟨t4.toArray⟩)).rd u4)
          clear c0 c1 f0 f1 h0 ne1 ne2 p0 p1 p2 p3 p4 p5 p6 p7 p8 p9 D9 pa pb
          generalize (((w4.setCell ⟨ky, 3, none⟩ (.string ⟨t4.toArray⟩)).setCell ⟨rb, 0, none⟩ (.string ⟨u4.rest.toArray⟩)).setCell ⟨rb, 1, none⟩ (.bool u4.bad)) = W5 at *
          clear G I4
          obtain ⟨h0, h1, h2, h3, -, -, -, -, ne1, ne2⟩ := I5.out.c
          obtain ⟨-, -, b2, -, -, bf⟩ := I5.out.d.cb
          have F6 := Lib.hid (I5.out.d.gr (gr_al W5 (.cells #[.int .i64 n1, .int .i64 (n2 / 2), .int .i64 n3, .string ⟨t4.toArray⟩] 71)))
          have HOA := Lib.hid F6.out.o
          have HBA := Lib.hid F6.out.lt.2
          go_wp2_with (at_builtin; refine wpList_app elI rfl (.tmp 78) (.tmp 80) rfl (rb + 4) rfl HOA.out (A := some ⟨W5.heap.size, 0, none⟩) (M := [⟨n1, (n2 / 2), n3, t4⟩]) (m := 1) (c := 1) rfl rfl (rd_cells (t := 71) elI.hn (al_new _ _)) (by have := HLL.out; simp; omega) HBA.out ?_; intro v7 w7 o7 g7 b7; obtain ⟨A7, c7, rfl⟩ := app_ins HM.out o7; obtain ⟨-, y7, z7⟩ := F6.out.mid g7; have P7 := Lib.hid (F6.out.put g7 o7); clear o7 g7 b7)
          exact ⟨⟨j + 1, A7, m1 + 1, c7, L ++ [⟨n1, (n2 / 2), n3, t4⟩], u4, by omega, by simp, by simp [HM.out], Lib.hid ⟨P7.out, NX.out⟩⟩, by rw [MS.out, msrAt_eqR P7.out.r]; exact ML.out⟩
      | true =>
        have FN := Lib.hid (HX.out.2.fin (.inr hbad))
        clear x0 x1 g0 g1
        obtain ⟨rest, bad⟩ := s'
        simp only at hbad
        subst hbad
        obtain ⟨c0, c1, -, -⟩ := HX.out.1.c
        obtain ⟨b0, b1, b2, -, -, -⟩ := HX.out.1.cb
        obtain ⟨y0, y1, y2, yf⟩ := dcel3 HX.out.1.z
        obtain ⟨z0, z1, zf0, zf1⟩ := dcel2 HX.out.1.z3
        have yf0 := yf 0
        have yf1 := yf 1
        have yf2 := yf 2
        clear yf
        go_upto_region 18 with fail
        go_region
        all_goals go_wp2
        all_goals
          obtain ⟨W9, hW9, p1, p2, p3, p4⟩ := HX.out.1.fin
          (try simp only at hW9)
          (try simp only [Exit.inBlock, Exit.then])
          rw [← hW9]
          obtain ⟨r0, r1, r2, -⟩ := dcel3 (gr_h (gr_drew W9) p1)
          obtain ⟨r3, r4, -, -⟩ := dcel2 (gr_h (gr_drew W9) p2)
          refine bodyPost_ret (results_bk rfl _ _ ⟨rb + 1, 0, none⟩ ⟨rb + 2, 0, none⟩ (.int .i64 cap) (.bool (pn == 1)) (.slice A1 m1 cc) (.string ⟨rest.toArray⟩) (.bool true) rfl rfl r0 r1 r2 r3 r4) rfl ?_
          exact rkp_of (E.out.trans (by rw [FN.out])) (p3.gr (gr_drew W9)) (p4.trans (gr_drew W9))
    · have FN := Lib.hid (HX.out.2.fin (.inl hlt))
      clear x0 x1 g0 g1
      obtain ⟨c0, c1, -, -⟩ := HX.out.1.c
      obtain ⟨b0, b1, b2, -, -, -⟩ := HX.out.1.cb
      obtain ⟨y0, y1, y2, yf⟩ := dcel3 HX.out.1.z
      obtain ⟨z0, z1, zf0, zf1⟩ := dcel2 HX.out.1.z3
      have yf0 := yf 0
      have yf1 := yf 1
      have yf2 := yf 2
      clear yf
      go_upto_region 18 with fail
      go_region
      all_goals go_wp2
      all_goals
        obtain ⟨W9, hW9, p1, p2, p3, p4⟩ := HX.out.1.fin
        (try simp only at hW9)
        (try simp only [Exit.inBlock, Exit.then])
        rw [← hW9]
        obtain ⟨r0, r1, r2, -⟩ := dcel3 (gr_h (gr_drew W9) p1)
        obtain ⟨r3, r4, -, -⟩ := dcel2 (gr_h (gr_drew W9) p2)
        refine bodyPost_ret (results_bk rfl _ _ ⟨rb + 1, 0, none⟩ ⟨rb + 2, 0, none⟩ (.int .i64 cap) (.bool (pn == 1)) (.slice A1 m1 cc) (.string ⟨s'.rest.toArray⟩) (.bool s'.bad) rfl rfl r0 r1 r2 r3 r4) rfl ?_
        exact rkp_of (E.out.trans (by rw [FN.out])) (p3.gr (gr_drew W9)) (p4.trans (gr_drew W9))
end Go.Proofs.YtgboboljgcfggaaGreatDoor
