/- Walk: the reference's Decode. -/
import Derived.Test.YtgboboljgcfggaaGreatDoorRfX
import Derived.Test.YtgboboljgcfggaaGreatDoorRfV
import Derived.Test.YtgboboljgcfggaaGreatDoorRfK
import Derived.Test.YtgboboljgcfggaaGreatDoorRfE
import Derived.Test.YtgboboljgcfggaaGreatDoorDeC
namespace Go.Proofs.YtgboboljgcfggaaGreatDoor
open Go.RowKit

attribute [local irreducible] Calls in
set_option maxRecDepth 100000 in
set_option maxHeartbeats 8000000 in
theorem rdecode_any (t : T) (w : World) (hl : t.length ≤ 90000) : Calls Tryz.prog 8 #[.string ⟨t.toArray⟩] w (DcP t w) := by
  obtain ⟨n1, s1, e1⟩ : ∃ n s', rdN ⟨t, false⟩ = (n, s') := ⟨_, _, rfl⟩
  obtain ⟨pbs, s2, e2⟩ : ∃ n s', rdL (rdB false) n1.toNat s1 [] = (n, s') := ⟨_, _, rfl⟩
  obtain ⟨n2, s3, e3⟩ : ∃ n s', rdN s2 = (n, s') := ⟨_, _, rfl⟩
  obtain ⟨sts, s4, e4⟩ : ∃ n s', rdL rdS n2.toNat s3 [] = (n, s') := ⟨_, _, rfl⟩
  have EP := Lib.hid (show rdP false ⟨t, false⟩ = (⟨pbs, sts⟩, s4) from by unfold rdP; simp only [e1, e2, e3, e4])
  have DR := Lib.hid (decR t hl)
  have a1 := rdN_nn ⟨t, false⟩
  have a2 := rdN_le ⟨t, false⟩
  have a3 := rdN_nn s2
  have a4 := rdN_le s2
  have a5 := (rdN_con ⟨t, false⟩).1
  have a6 := (rdL_con (rdB_con false) n1.toNat s1 []).1
  have a7 := (rdN_con s2).1
  rw [e1] at a1 a2 a5
  rw [e3] at a3 a4 a7
  rw [e2] at a6
  simp only at a1 a2 a3 a4 a5 a6 a7
  have HL1 := Lib.hid (show s1.rest.length ≤ 90000 from by omega)
  have HL2 := Lib.hid (show s2.rest.length ≤ 90000 from by omega)
  have HL3 := Lib.hid (show s3.rest.length ≤ 90000 from by omega)
  have R1 := Lib.hid (fun W => (show Calls Tryz.prog 27 #[.agg #[.string ⟨t.toArray⟩, .bool false]] W (RrP (iv n1) s1 W) from by have := rrnum_any ⟨t, false⟩ W (by show t.length ≤ _; omega); rwa [e1] at this))
  have R2 := Lib.hid (fun W => (show Calls Tryz.prog 27 #[.agg #[.string ⟨s2.rest.toArray⟩, .bool s2.bad]] W (RrP (iv n2) s3 W) from by have := rrnum_any s2 W (by omega); rwa [e3] at this))
  have E2 := Lib.hid e2
  have E4 := Lib.hid e4
  have N1 := Lib.hid (show 0 ≤ n1 ∧ 0 ≤ n2 from ⟨a1, a3⟩)
  have HT := Lib.hid hl
  clear e1 e2 e3 e4 a1 a3 a5 a6 a7 hl
  obtain ⟨k2, hk2⟩ : ∃ k, w.heap.size = k := ⟨_, rfl⟩
  have Z0 := Lib.hid (show Gr w ((w.alloc (.cells #[.slice none 0 0, .slice none 0 0] 26)).alloc (.cells #[.slice none 0 0, .slice none 0 0] 26)) ∧ ((w.alloc (.cells #[.slice none 0 0, .slice none 0 0] 26)).alloc (.cells #[.slice none 0 0, .slice none 0 0] 26)).heap[k2]? = some (.cells #[.slice none 0 0, .slice none 0 0] 26 (0, 0)) ∧ ((w.alloc (.cells #[.slice none 0 0, .slice none 0 0] 26)).alloc (.cells #[.slice none 0 0, .slice none 0 0] 26)).heap[k2 + 1]? = some (.cells #[.slice none 0 0, .slice none 0 0] 26 (0, 0)) ∧ ((w.alloc (.cells #[.slice none 0 0, .slice none 0 0] 26)).alloc (.cells #[.slice none 0 0, .slice none 0 0] 26)).heap.size = k2 + 2 from by
    subst hk2
    exact ⟨(gr_al _ _).trans (gr_al _ _), gr_h (gr_al _ _) (al_new _ _), al_at _ _ (by simp), by simp⟩)
  go_enter Tryz.func8, Tryz.ntmps8
  go_upto_region 2 with fail
  (try rw [hk2])
  have HK2 := Lib.hid hk2
  clear hk2
  generalize ((w.alloc (.cells #[.slice none 0 0, .slice none 0 0] 26)).alloc (.cells #[.slice none 0 0, .slice none 0 0] 26)) = W0 at *
  go_upto_region 3 with (go_at_call 27; refine (R1.out _).mono ?_; rintro e W1 ⟨rfl, g⟩; have G := Lib.hid g; clear g)
  have D1 : ∃ rb, Hid (W1.heap.size = rb ∧ DT w rb k2 (k2 + 1) (rb + 1) s1 (.slice none 0 0) (.slice none 0 0) [] [] (W1.alloc (.cells #[.string ⟨s1.rest.toArray⟩, .bool s1.bad] 82))) := by
    refine ⟨_, Lib.hid ⟨rfl, ?_⟩⟩
    obtain ⟨q1, q2, q3, q4⟩ := Z0.out
    have hk := HK2.out
    have hs := G.out.size
    exact ⟨al_new _ _, gr_h (G.out.trans (gr_al _ _)) q2, gr_h (G.out.trans (gr_al _ _)) q3, OR.nil, OR.nil, (fun j e => by cases e), (fun x hx => by cases hx), (q1.trans G.out).trans (gr_al _ _), by omega, by omega, by omega, by omega, by omega, by omega, by omega, by omega, by omega, by simp⟩
  obtain ⟨rb, D1⟩ := D1
  rw [D1.out.1]
  have D1 := Lib.hid (show DT w rb k2 (k2 + 1) (rb + 1) s1 (.slice none 0 0) (.slice none 0 0) [] [] (W1.alloc (.cells #[.string ⟨s1.rest.toArray⟩, .bool s1.bad] 82)) from D1.out.2)
  generalize W1.alloc (.cells #[.string ⟨s1.rest.toArray⟩, .bool s1.bad] 82) = W2 at *
  clear G Z0 R1
  obtain ⟨kp, hkp⟩ : ∃ r, k2 + 1 = r := ⟨_, rfl⟩
  obtain ⟨base, hbase⟩ : ∃ r, rb + 1 = r := ⟨_, rfl⟩
  rw [hkp, hbase] at D1
  rw [hkp]
  clear hkp hbase HK2
  go_wp2
  go_loopw [7] (fun u W => ∃ (j : Nat) (A1 : Option Addr) (m1 c1 : Nat) (Bs : List Blk) (s' : RS), (j : Int) ≤ 1099511627776 ∧ u = .int .i64 j ∧ Bs.length = m1 ∧ Hid (DT w rb k2 kp base s' (.slice A1 m1 c1) (.slice none 0 0) Bs [] W ∧ LRS (rdB false) n1 s1 j (Bs.map Blk.pb) s' ∧ ∀ x ∈ Bs, x.ins.length ≤ 90001 ∧ ∀ y ∈ x.ins, y.name.length ≤ 65536)) (fun _ W => msrAt rb W)
  case atStart => exact ⟨0, none, 0, 0, [], s1, by omega, rfl, rfl, Lib.hid ⟨D1.out, LRS.start N1.out.1, by simp⟩⟩
  case round =>
    obtain ⟨j, A1, m1, c1, Bs, s', hj, rfl, hm, HX⟩ := hrel
    have HM := Lib.hid hm
    clear hm D1
    obtain ⟨x0, x1, g0, g1⟩ := dcel2 HX.out.1.r
    have GO : (j : Int) < n1 ∧ s'.bad = false ∨ ¬ (j : Int) < n1 ∨ (j : Int) < n1 ∧ s'.bad = true := by
      by_cases h1 : (j : Int) < n1
      · cases h2 : s'.bad with
        | false => exact .inl ⟨h1, rfl⟩
        | true => exact .inr (.inr ⟨h1, rfl⟩)
      · exact .inr (.inl h1)
    rcases GO with ⟨hlt, hb⟩ | hex
    · obtain ⟨rest, bad⟩ := s'
      simp only at hb
      subst hb
      have hls := HX.out.2.1.l
      simp only [Bool.false_eq_true, if_false, List.length_map] at hls
      obtain ⟨cap, pm, ins, u, hE⟩ : ∃ cap pm ins u, rdB false ⟨rest, false⟩ = (⟨cap, pm, ins⟩, u) := ⟨_, _, _, _, rfl⟩
      obtain ⟨xn, hxn⟩ : ∃ n, ins.length = n := ⟨_, rfl⟩
      have IL := rdB_len false ⟨rest, false⟩
      rw [hE] at IL
      simp only at IL
      have hl1 := HL1.out
      have ILH := Lib.hid (show ins.length ≤ 90001 ∧ ∀ y ∈ ins, y.name.length ≤ 65536 from ⟨by omega, IL.2⟩)
      have C1 := Lib.hid (fun W => show Calls Tryz.prog 28 #[.agg #[.string ⟨rest.toArray⟩, .bool false]] W (fun e V' => ∃ (xA : Option Addr) (xc : Nat), e = .returned (.tuple #[.agg #[.int .i64 cap, .bool pm, .slice xA xn xc], .agg #[.string ⟨u.rest.toArray⟩, .bool u.bad]]) ∧ OR 71 4 Ins.cs V' W.heap.size (.slice xA xn xc) ins ∧ Gr W V') from by
        have h2 := rrblock_any ⟨rest, false⟩ W (by show rest.length ≤ _; omega)
        unfold RkP at h2
        rw [hE] at h2
        refine h2.mono ?_
        rintro e V' ⟨v, rfl, o, g⟩
        obtain ⟨xA, xc, rfl, -⟩ := o.form elI.hn
        rw [hxn] at o ⊢
        exact ⟨xA, xc, rfl, o, g⟩)
      have HLL := Lib.hid (show Bs.length + 1 ≤ 1000000 from by omega)
      have NX := Lib.hid (fun (xA : Option Addr) (xc : Nat) => show LRS (rdB false) n1 s1 (j + 1) ((Bs ++ [(⟨cap, pm, xA, xc, ins⟩ : Blk)]).map Blk.pb) u from by have h := HX.out.2.1.next (rdB_con false _) hlt rfl; rw [hE] at h; rw [List.map_append]; exact h)
      have NI := Lib.hid (fun (xA : Option Addr) (xc : Nat) => show ∀ x ∈ Bs ++ [(⟨cap, pm, xA, xc, ins⟩ : Blk)], x.ins.length ≤ 90001 ∧ ∀ y ∈ x.ins, y.name.length ≤ 65536 from fun x hx => by
        rcases List.mem_append.1 hx with h1 | h1
        · exact HX.out.2.2 x h1
        · simp only [List.mem_cons, List.not_mem_nil, or_false] at h1
          rw [h1]
          exact ILH.out)
      have ML := Lib.hid (show msr u < msr ⟨rest, false⟩ from by have h := msr_lt (rdB_con false ⟨rest, false⟩) rfl; rwa [hE] at h)
      have MS := Lib.hid (msrAt_eqR HX.out.1.r)
      have HXN := Lib.hid hxn
      clear hE hxn IL hl1 hls
      go_upto_region 7 with (go_at_call 28; refine (C1.out _).mono ?_; rintro e W3 ⟨xA, xc, rfl, o, g⟩; have G := Lib.hid g; have O := Lib.hid o; clear o g)
      have F4 := Lib.hid (HX.out.1.gr ((G.out.trans (gr_al W3 (.cells #[.int .i64 cap, .bool pm, .slice xA xn xc] 69))).trans (gr_al _ (.cells #[.string ⟨u.rest.toArray⟩, .bool u.bad] 82))))
      have NB := Lib.hid ((ins_at (x := (⟨cap, pm, xA, xc, ins⟩ : Blk)) HX.out.1.o1 HX.out.1.o2 HX.out.1.lt.2.2.2.2.2.2.2.2.2 rfl O.out).gr ((gr_al W3 (.cells #[.int .i64 cap, .bool pm, .slice xA xn xc] 69)).trans (gr_al _ (.cells #[.string ⟨u.rest.toArray⟩, .bool u.bad] 82))))
      have YB := Lib.hid (gr_h (gr_al (W3.alloc (.cells #[.int .i64 cap, .bool pm, .slice xA xn xc] 69)) (.cells #[.string ⟨u.rest.toArray⟩, .bool u.bad] 82)) (al_new W3 (.cells #[.int .i64 cap, .bool pm, .slice xA xn xc] 69)))
      have YR := Lib.hid (al_at (W3.alloc (.cells #[.int .i64 cap, .bool pm, .slice xA xn xc] 69)) (.cells #[.string ⟨u.rest.toArray⟩, .bool u.bad] 82) (A := W3.heap.size + 1) (by simp))
      have HKY := Lib.hid (show base ≤ W3.heap.size from by have := G.out.size; have := HX.out.1.lt; omega)
      obtain ⟨ky, hky⟩ : ∃ k, W3.heap.size = k := ⟨_, rfl⟩
      have HXN2 := Lib.hid HXN.out
      rw [hky] at YB YR HKY ⊢
      clear hky HX G O x0 x1 g0 g1
      generalize (W3.alloc (.cells #[.int .i64 cap, .bool pm, .slice xA xn xc] 69)).alloc (.cells #[.string ⟨u.rest.toArray⟩, .bool u.bad] 82) = W4 at *
      obtain ⟨x0, x1, g0, g1⟩ := dcel2 F4.out.r
      obtain ⟨d0, d1, -, -⟩ := dcel2 YR.out
      go_upto_region 8 with fail
      have F5 := Lib.hid (F4.out.rds u)
      have HNE := Lib.hid (show ky ≠ rb from by have := F4.out.lt; have := HKY.out; omega)
      have YB5 := Lib.hid (show ((W4.setCell ⟨rb, 0, none⟩ (.string ⟨u.rest.toArray⟩)).setCell ⟨rb, 1, none⟩ (.bool u.bad)).heap[ky]? = some (.cells #[.int .i64 cap, .bool pm, .slice xA xn xc] 69 (0, 0)) from (set_oth _ HNE.out).trans ((set_oth _ HNE.out).trans YB.out))
      have NB5 := Lib.hid (show InsAt base (.slice A1 m1 c1) (.slice none 0 0) ((W4.setCell ⟨rb, 0, none⟩ (.string ⟨u.rest.toArray⟩)).setCell ⟨rb, 1, none⟩ (.bool u.bad)) ⟨cap, pm, xA, xc, ins⟩ from by
        have g := (grown_set (w := W4) rb 0 (.string ⟨u.rest.toArray⟩)).trans (grown_set rb 1 (.bool u.bad))
        obtain ⟨q1, q2⟩ := NB.out
        have hlt := F4.out.lt
        exact ⟨q1.but g (fun a e => by have := (q2 a e).1; intro e2; have := Option.some.inj e2; omega), fun a e => ⟨(q2 a e).1, Nat.lt_of_lt_of_le (q2 a e).2.1 g.size, (q2 a e).2.2⟩⟩)
      clear x0 x1 g0 g1 d0 d1 F4 NB YB YR
      generalize (W4.setCell ⟨rb, 0, none⟩ (.string ⟨u.rest.toArray⟩)).setCell ⟨rb, 1, none⟩ (.bool u.bad) = W5 at *
      obtain ⟨y0, -, z0, -⟩ := F5.out.c
      obtain ⟨d0, d1, d2, -⟩ := dcel3 YB5.out
      have F6 := Lib.hid (F5.out.gr (gr_al W5 (.cells #[.int .i64 cap, .bool pm, .slice xA xn xc] 69)))
      have NB6 := Lib.hid (NB5.out.gr (gr_al W5 (.cells #[.int .i64 cap, .bool pm, .slice xA xn xc] 69)))
      have HOA := Lib.hid F6.out.o1
      have HBA := Lib.hid F6.out.lt.2.2.2.2.2.2.2.2.2
      have HRD := Lib.hid (show RD 3 Blk.cs (W5.alloc (.cells #[.int .i64 cap, .bool pm, .slice xA xn xc] 69)) (some ⟨W5.heap.size, 0, none⟩) [⟨cap, pm, xA, xc, ins⟩] from rd_cells (t := 69) elB.hn (by
        have h9 := al_new W5 (.cells #[.int .i64 cap, .bool pm, .slice xA xn xc] 69)
        rw [← HXN.out] at h9 ⊢
        exact h9))
      go_wp2_with (at_builtin; refine wpList_app elB rfl (.tmp 38) (.tmp 40) rfl base rfl HOA.out (A := some ⟨W5.heap.size, 0, none⟩) (M := [⟨cap, pm, xA, xc, ins⟩]) (m := 1) (c := 1) rfl rfl HRD.out (by have := HLL.out; simp; omega) HBA.out ?_; intro v7 w7 o7 g7 b7; obtain ⟨A7, c7, rfl⟩ := app_blk HM.out o7; obtain ⟨-, z7, -, y7, -⟩ := F6.out.mid g7 (fun j e => (F6.out.o1.lt j e).1); have P7 := Lib.hid (F6.out.putB NB6.out g7 o7 b7); clear o7 g7 b7)
      exact ⟨⟨j + 1, A7, m1 + 1, c7, Bs ++ [⟨cap, pm, xA, xc, ins⟩], u, by omega, by simp, by simp [HM.out], Lib.hid ⟨P7.out, NX.out xA xc, NI.out xA xc⟩⟩, by rw [MS.out, msrAt_eqR P7.out.r]; exact ML.out⟩
    · rcases hex with hex1 | ⟨hlt2, hb2⟩
      all_goals
        obtain ⟨qb, qs⟩ := Prod.mk.inj ((HX.out.2.1.fin (by first | exact .inl hex1 | exact .inr hb2)).symm.trans E2.out)
        try rw [hb2] at x1
        subst qs
        have QB := Lib.hid qb
        have NI := Lib.hid HX.out.2.2
        have LB := Lib.hid (show Bs.length ≤ 90001 from by
          have h := HX.out.2.1.l
          rw [List.length_map] at h
          have h2 := HL1.out
          have h3 : (if s'.bad then 1 else 0) ≤ 1 := by split <;> omega
          omega)
        have D2 := Lib.hid HX.out.1
        clear qb HX
        have XB := Lib.hid x1
        try (rw [hb2] at R2)
        go_upto_region 10 with (go_at_call 27; refine (R2.out _).mono ?_; rintro e W3 ⟨rfl, g⟩; have D9 := Lib.hid (D2.out.gr g); obtain ⟨p0, p1, p2, p3⟩ := dcel2 D9.out.r; clear g)
        have D3 := Lib.hid (D9.out.rds s3)
        clear x0 x1 g0 g1 p0 p1 p2 p3 D9 D2
        try clear hex1
        try clear hlt2
        try clear hb2
        generalize (W3.setCell ⟨rb, 0, none⟩ (.string ⟨s3.rest.toArray⟩)).setCell ⟨rb, 1, none⟩ (.bool s3.bad) = W4 at *
        go_wp2
        go_loopw [10] (fun u W => ∃ (k : Nat) (A2 : Option Addr) (m2 c2 : Nat) (Ss : List Stt) (s' : RS), (k : Int) ≤ 1099511627776 ∧ u = .int .i64 k ∧ Ss.length = m2 ∧ Hid (DT w rb k2 kp base s' (.slice A1 m1 c1) (.slice A2 m2 c2) Bs Ss W ∧ LRS rdS n2 s3 k Ss s' ∧ ∀ x ∈ Ss, x.pack.length ≤ 65536)) (fun _ W => msrAt rb W)
        case atStart => exact ⟨0, none, 0, 0, [], s3, by omega, rfl, rfl, Lib.hid ⟨D3.out, LRS.start N1.out.2, by simp⟩⟩
        case round =>
          obtain ⟨k, A2, m2, c2, Ss, s', hk, rfl, hm2, HX⟩ := hrel
          have HM2 := Lib.hid hm2
          clear hm2 D3 XB
          obtain ⟨x0, x1, g0, g1⟩ := dcel2 HX.out.1.r
          have GO : (k : Int) < n2 ∧ s'.bad = false ∨ ¬ (k : Int) < n2 ∨ s'.bad = true := by
            by_cases h1 : (k : Int) < n2
            · cases h2 : s'.bad with
              | false => exact .inl ⟨h1, rfl⟩
              | true => exact .inr (.inr rfl)
            · exact .inr (.inl h1)
          rcases GO with ⟨hlt, hb⟩ | hex
          · obtain ⟨rest, bad⟩ := s'
            simp only at hb
            subst hb
            have hls := HX.out.2.1.l
            simp only [Bool.false_eq_true, if_false] at hls
            obtain ⟨t1, u1, e1⟩ : ∃ n s', rdT ⟨rest, false⟩ = (n, s') := ⟨_, _, rfl⟩
            obtain ⟨n2x, u2, e2⟩ : ∃ n s', rdN u1 = (n, s') := ⟨_, _, rfl⟩
            obtain ⟨n3, u3, e3⟩ : ∃ n s', rdN u2 = (n, s') := ⟨_, _, rfl⟩
            have EI := Lib.hid (show rdS ⟨rest, false⟩ = (⟨t1, n2x, n3⟩, u3) from by
              unfold rdS
              simp only [e1, e2, e3])
            have q1 := (rdT_con ⟨rest, false⟩).1
            have q2 := (rdN_con u1).1
            have tl := rdT_len ⟨rest, false⟩
            rw [e1] at q1 tl
            rw [e2] at q2
            simp only at q1 q2 tl
            have hl4 := HL3.out
            have C1 := Lib.hid (fun W => show Calls Tryz.prog 29 #[.agg #[.string ⟨rest.toArray⟩, .bool false]] W (RrP (.string ⟨t1.toArray⟩) u1 W) from by have := rrtext_any ⟨rest, false⟩ W (by show rest.length ≤ _; omega); rwa [e1] at this)
            have C2 := Lib.hid (fun W => show Calls Tryz.prog 27 #[.agg #[.string ⟨u1.rest.toArray⟩, .bool u1.bad]] W (RrP (iv n2x) u2 W) from by have := rrnum_any u1 W (by omega); rwa [e2] at this)
            have C3 := Lib.hid (fun W => show Calls Tryz.prog 27 #[.agg #[.string ⟨u2.rest.toArray⟩, .bool u2.bad]] W (RrP (iv n3) u3 W) from by have := rrnum_any u2 W (by omega); rwa [e3] at this)
            have HLL := Lib.hid (show Ss.length + 1 ≤ 1000000 from by omega)
            have NX := Lib.hid (show LRS rdS n2 s3 (k + 1) (Ss ++ [⟨t1, n2x, n3⟩]) u3 from by have h := HX.out.2.1.next (rdS_con _) hlt rfl; rwa [EI.out] at h)
            have NS := Lib.hid (show ∀ x ∈ Ss ++ [(⟨t1, n2x, n3⟩ : Stt)], x.pack.length ≤ 65536 from fun x hx => by
              rcases List.mem_append.1 hx with h1 | h1
              · exact HX.out.2.2 x h1
              · simp only [List.mem_cons, List.not_mem_nil, or_false] at h1
                rw [h1]
                exact tl)
            have ML := Lib.hid (show msr u3 < msr ⟨rest, false⟩ from by have h := msr_lt (rdS_con ⟨rest, false⟩) rfl; rwa [EI.out] at h)
            have MS := Lib.hid (msrAt_eqR HX.out.1.r)
            clear e1 e2 e3 q1 q2 tl hl4 hls
            go_upto_region 14 with fail
            have I0 := Lib.hid HX.out.1.box
            obtain ⟨kx, hkx⟩ : ∃ k, wr.heap.size = k := ⟨_, rfl⟩
            rw [hkx] at I0 ⊢
            clear hkx HX x0 x1 g0 g1
            generalize wr.alloc (.cells #[.string ⟨#[]⟩, .int .i64 0, .int .i64 0] 79) = V0 at *
            obtain ⟨-, -, -, h0, -, -, ne1, ne2⟩ := I0.out.c
            clear h0 ne1 ne2
            obtain ⟨x0, x1, g0, g1⟩ := dcel2 I0.out.d.r
            go_upto_region 15 with (go_at_call 29; refine (C1.out _).mono ?_; rintro e w1 ⟨rfl, g⟩; have D9 := Lib.hid (I0.out.gr g); obtain ⟨p0, p1, p2, p3⟩ := dcel2 D9.out.d.r; obtain ⟨p4, p5, p6, p7, p8, p9, pa, pb⟩ := D9.out.c; clear g)
            have I1 := Lib.hid (show DTI w rb k2 kp base u1 (.slice A1 m1 c1) (.slice A2 m2 c2) Bs Ss kx (.string ⟨t1.toArray⟩) (.int .i64 0) (.int .i64 0) (((w1.setCell ⟨kx, 0, none⟩ (.string ⟨t1.toArray⟩)).setCell ⟨rb, 0, none⟩ (.string ⟨u1.rest.toArray⟩)).setCell ⟨rb, 1, none⟩ (.bool u1.bad)) from (D9.out.f0 (.string ⟨t1.toArray⟩)).rds u1)
            clear x0 x1 g0 g1 p0 p1 p2 p3 p4 p5 p6 p7 p8 p9 pa pb D9 I0
            generalize (((w1.setCell ⟨kx, 0, none⟩ (.string ⟨t1.toArray⟩)).setCell ⟨rb, 0, none⟩ (.string ⟨u1.rest.toArray⟩)).setCell ⟨rb, 1, none⟩ (.bool u1.bad)) = V1 at *
            obtain ⟨x0, x1, g0, g1⟩ := dcel2 I1.out.d.r
            go_upto_region 16 with (go_at_call 27; refine (C2.out _).mono ?_; rintro e w2 ⟨rfl, g⟩; have D9 := Lib.hid (I1.out.gr g); obtain ⟨p0, p1, p2, p3⟩ := dcel2 D9.out.d.r; obtain ⟨p4, p5, p6, p7, p8, p9, pa, pb⟩ := D9.out.c; clear g)
            have I2 := Lib.hid (show DTI w rb k2 kp base u2 (.slice A1 m1 c1) (.slice A2 m2 c2) Bs Ss kx (.string ⟨t1.toArray⟩) (.int .i64 n2x) (.int .i64 0) (((w2.setCell ⟨kx, 1, none⟩ (.int .i64 n2x)).setCell ⟨rb, 0, none⟩ (.string ⟨u2.rest.toArray⟩)).setCell ⟨rb, 1, none⟩ (.bool u2.bad)) from (D9.out.f1 (.int .i64 n2x)).rds u2)
            clear x0 x1 g0 g1 p0 p1 p2 p3 p4 p5 p6 p7 p8 p9 pa pb D9 I1
            generalize (((w2.setCell ⟨kx, 1, none⟩ (.int .i64 n2x)).setCell ⟨rb, 0, none⟩ (.string ⟨u2.rest.toArray⟩)).setCell ⟨rb, 1, none⟩ (.bool u2.bad)) = V2 at *
            obtain ⟨x0, x1, g0, g1⟩ := dcel2 I2.out.d.r
            go_upto_region 17 with (go_at_call 27; refine (C3.out _).mono ?_; rintro e w3 ⟨rfl, g⟩; have D9 := Lib.hid (I2.out.gr g); obtain ⟨p0, p1, p2, p3⟩ := dcel2 D9.out.d.r; obtain ⟨p4, p5, p6, p7, p8, p9, pa, pb⟩ := D9.out.c; clear g)
            have I3 := Lib.hid (show DTI w rb k2 kp base u3 (.slice A1 m1 c1) (.slice A2 m2 c2) Bs Ss kx (.string ⟨t1.toArray⟩) (.int .i64 n2x) (.int .i64 n3) (((w3.setCell ⟨kx, 2, none⟩ (.int .i64 n3)).setCell ⟨rb, 0, none⟩ (.string ⟨u3.rest.toArray⟩)).setCell ⟨rb, 1, none⟩ (.bool u3.bad)) from (D9.out.f2 (.int .i64 n3)).rds u3)
            clear x0 x1 g0 g1 p0 p1 p2 p3 p4 p5 p6 p7 p8 p9 pa pb D9 I2
            generalize (((w3.setCell ⟨kx, 2, none⟩ (.int .i64 n3)).setCell ⟨rb, 0, none⟩ (.string ⟨u3.rest.toArray⟩)).setCell ⟨rb, 1, none⟩ (.bool u3.bad)) = V3 at *
            obtain ⟨h0, h1, h2, -, -, -, -, -⟩ := I3.out.c
            obtain ⟨-, b1, -, bf⟩ := I3.out.d.c
            have F6 := Lib.hid (I3.out.d.gr (gr_al V3 (.cells #[.string ⟨t1.toArray⟩, .int .i64 n2x, .int .i64 n3] 79)))
            have HOA := Lib.hid F6.out.o2
            have HBA := Lib.hid F6.out.lt.2.2.2.2.2.2.2.2.2
            go_wp2_with (at_builtin; refine wpList_app elSt rfl (.tmp 80) (.tmp 82) rfl base rfl HOA.out (A := some ⟨V3.heap.size, 0, none⟩) (M := [⟨t1, n2x, n3⟩]) (m := 1) (c := 1) rfl rfl (rd_cells (t := 79) elSt.hn (al_new _ _)) (by have := HLL.out; simp; omega) HBA.out ?_; intro v7 w7 o7 g7 b7; obtain ⟨A7, c7, rfl⟩ := app_stt HM2.out o7; obtain ⟨-, -, z7, -, y7⟩ := F6.out.mid g7 (fun j e => (F6.out.o2.lt j e).1); have P7 := Lib.hid (F6.out.putS g7 o7 b7); clear o7 g7 b7)
            exact ⟨⟨k + 1, A7, m2 + 1, c7, Ss ++ [⟨t1, n2x, n3⟩], u3, by omega, by simp, by simp [HM2.out], Lib.hid ⟨P7.out, NX.out, NS.out⟩⟩, by rw [MS.out, msrAt_eqR P7.out.r]; exact ML.out⟩
          · obtain ⟨qc, qs⟩ := Prod.mk.inj ((HX.out.2.1.fin hex).symm.trans E4.out)
            subst qs
            subst qc
            have LS := Lib.hid (show Ss.length ≤ 90001 from by
              have h := HX.out.2.1.l
              have h2 := HL3.out
              have h3 : (if s'.bad then 1 else 0) ≤ 1 := by split <;> omega
              omega)
            have NS := Lib.hid HX.out.2.2
            have XP := Lib.hid (show (⟨A1, c1, Bs, A2, c2, Ss⟩ : Prg).pp = ⟨pbs, Ss⟩ from by unfold Prg.pp; simp only [QB.out])
            have XL := Lib.hid (show (⟨A1, c1, Bs, A2, c2, Ss⟩ : Prg).Len from ⟨by show Bs.length ≤ _; have := LB.out; omega, by show Ss.length ≤ _; have := LS.out; omega, fun b hb => by have := (NI.out b hb).1; omega, fun b hb x hx => by have := (NI.out b hb).2 x hx; omega, fun x hx => by have := NS.out x hx; omega⟩)
            have EQE := Lib.hid (show errP ⟨A1, c1, Bs, A2, c2, Ss⟩ = errQ pbs Ss from by rw [errP_pl]; simp only [QB.out])
            have DD := DR.out
            rw [EP.out] at DD
            simp only at DD
            have RD0 := Lib.hid HX.out.1
            obtain ⟨bk, er, hbe⟩ : ∃ bk er, encV ⟨A1, c1, Bs, A2, c2, Ss⟩ = (bk, er) := ⟨_, _, rfl⟩
            have HBE := Lib.hid hbe
            have CE := Lib.hid (show Calls Tryz.prog 14 #[.agg #[.slice A1 m1 c1, .slice A2 m2 c2]] wr (fun e w' => e = .returned (.tuple #[.string ⟨bk.toArray⟩, .int .i64 er]) ∧ Gr wr w') from by
              have h := rencode_any ⟨A1, c1, Bs, A2, c2, Ss⟩ wr HX.out.1.prg XL.out (fun b hb => by have := (NI.out b hb).1; omega) (by show Ss.length ≤ _; have := LS.out; omega)
              unfold EnP at h
              rw [hbe] at h
              unfold Prg.v at h
              simp only [HM.out, HM2.out] at h
              exact h)
            have GOOD : (s'.bad = false ∧ er = 0 ∧ bk = t) ∧ decV t = (⟨pbs, Ss⟩, 0) ∨ decV t = (⟨[], []⟩, 13) ∧ (s'.bad = true ∨ s'.bad = false ∧ er ≠ 0 ∨ s'.bad = false ∧ er = 0 ∧ bk ≠ t) := by
              have he : errP ⟨A1, c1, Bs, A2, c2, Ss⟩ = 0 → bk = eP ⟨pbs, Ss⟩ ∧ er = 0 := fun h => by
                rw [encV_ok h, XP.out] at hbe
                exact ⟨(Prod.mk.inj hbe).1.symm, (Prod.mk.inj hbe).2.symm⟩
              have he2 : errP ⟨A1, c1, Bs, A2, c2, Ss⟩ ≠ 0 → er ≠ 0 := fun h => by
                rw [encV_bad h] at hbe
                rw [← (Prod.mk.inj hbe).2]
                exact h
              rw [EQE.out] at he he2
              by_cases c1 : s'.bad = false
              · by_cases c2 : errQ pbs Ss = 0
                · obtain ⟨h1, h2⟩ := he c2
                  by_cases c3 : eP ⟨pbs, Ss⟩ = t
                  · exact .inl ⟨⟨c1, h2, h1.trans c3⟩, by rw [DD, if_pos ⟨c1, c2, c3⟩]⟩
                  · exact .inr ⟨by rw [DD, if_neg (fun h => c3 h.2.2)], .inr (.inr ⟨c1, h2, fun e => c3 (h1.symm.trans e)⟩)⟩
                · exact .inr ⟨by rw [DD, if_neg (fun h => c2 h.2.1)], .inr (.inl ⟨c1, he2 c2⟩)⟩
              · exact .inr ⟨by rw [DD, if_neg (fun h => c1 h.1)], .inl (by simpa using c1)⟩
            obtain ⟨y0, y1, yf0, yf1⟩ := HX.out.1.c
            clear hbe DD HX
            have XB2 := Lib.hid x1
            rcases GOOD with ⟨⟨c1x, rfl, rfl⟩, GV⟩ | ⟨BADV, hbd⟩
            · have hk2 : ¬ (k : Int) < n2 := hex.elim id (fun e => by rw [c1x] at e; cases e)
              rw [c1x] at x1
              have C1X := Lib.hid c1x
              have GV := Lib.hid GV
              clear c1x hex
              go_upto_region 19 with (go_at_call 14; refine (CE.out).mono ?_; rintro e W9 ⟨rfl, g9⟩; have D9 := Lib.hid (RD0.out.gr g9); clear g9)
              clear x0 x1 g0 g1 y0 y1 yf0 yf1
              obtain ⟨x0, x1, -, -⟩ := dcel2 D9.out.r
              rw [C1X.out] at x1
              obtain ⟨y0, y1, -, -⟩ := D9.out.c
              obtain ⟨z0, z1, zf0, zf1⟩ := dcel2 D9.out.z
              go_wp2
              obtain ⟨r0, r1, -, -⟩ := dcel2 (D9.out.res (.slice A1 m1 c1) (.slice A2 m2 c2)).1
              (try simp only [Exit.inBlock, Exit.then])
              refine bodyPost_ret (results_pd rfl _ _ ⟨k2, 0, none⟩ (.slice A1 m1 c1) (.slice A2 m2 c2) (iv 0) rfl rfl r0 r1) rfl ?_
              have g1 := (grown_set (w := W9) k2 0 (.slice A1 m1 c1)).trans (grown_set k2 1 (.slice A2 m2 c2))
              obtain ⟨l1, l2, l3, l4, l5, l6, l7, l8, l9, l0⟩ := D9.out.lt
              refine ⟨⟨A1, c1, Bs, A2, c2, Ss⟩, by rw [GV.out]; unfold Prg.v; simp only [HM.out, HM2.out], ⟨?_, by rw [XP.out, GV.out], (D9.out.res (.slice A1 m1 c1) (.slice A2 m2 c2)).2, by show Bs.length ≤ _; have := LB.out; omega, by show Ss.length ≤ _; have := LS.out; omega, fun b hb => by have := (NI.out b hb).1; omega, XL.out⟩⟩
              refine ⟨?_, ?_, ?_⟩
              · obtain ⟨B1, d1, e1, r1⟩ := (D9.out.o1.kept g1 (or_ne D9.out.o1 l8)).form elB.hn
                rw [← (Value.slice.inj e1).1] at r1
                exact r1
              · intro x hx
                obtain ⟨q1, q2⟩ := D9.out.i x hx
                exact q1.but g1 (fun a e => by have := (q2 a e).1; intro e2; have := Option.some.inj e2; omega)
              · obtain ⟨B1, d1, e1, r1⟩ := (D9.out.o2.kept g1 (or_ne D9.out.o2 l8)).form elSt.hn
                rw [← (Value.slice.inj e1).1] at r1
                exact r1
            · have BADV := Lib.hid BADV
              rcases hbd with hb1 | ⟨hb1, hb2⟩ | ⟨hb1, rfl, hb3⟩
              · rw [hb1] at x1
                have HB1 := Lib.hid hb1
                clear hex hb1
                by_cases hk2 : (k : Int) < n2
                all_goals
                  go_upto_region 19 with (go_at_call 14; refine (CE.out).mono ?_; rintro e W9 ⟨rfl, g9⟩; have D9 := Lib.hid (RD0.out.gr g9); clear g9)
                  clear x0 x1 g0 g1 y0 y1 yf0 yf1
                  obtain ⟨x0, x1, -, -⟩ := dcel2 D9.out.r
                  rw [HB1.out] at x1
                  obtain ⟨y0, y1, yf0, yf1⟩ := dcel2 D9.out.z
                  go_wp2
                  obtain ⟨r0, r1, -, -⟩ := dcel2 (D9.out.res (.slice none 0 0) (.slice none 0 0)).1
                  (try simp only [Exit.inBlock, Exit.then])
                  refine bodyPost_ret (results_pd rfl _ _ ⟨k2, 0, none⟩ (.slice none 0 0) (.slice none 0 0) (iv 13) rfl rfl r0 r1) rfl ?_
                  exact dc_bad BADV.out (D9.out.res (.slice none 0 0) (.slice none 0 0)).2
              · have hk2 : ¬ (k : Int) < n2 := hex.elim id (fun e => by rw [hb1] at e; cases e)
                rw [hb1] at x1
                have HB1 := Lib.hid hb1
                have e0 : (er != 0) = true := by simpa using hb2
                clear hex hb1
                go_upto_region 19 with (go_at_call 14; refine (CE.out).mono ?_; rintro e W9 ⟨rfl, g9⟩; have D9 := Lib.hid (RD0.out.gr g9); clear g9)
                clear x0 x1 g0 g1 y0 y1 yf0 yf1
                obtain ⟨x0, x1, -, -⟩ := dcel2 D9.out.r
                rw [HB1.out] at x1
                obtain ⟨y0, y1, yf0, yf1⟩ := dcel2 D9.out.z
                go_wp2
                obtain ⟨r0, r1, -, -⟩ := dcel2 (D9.out.res (.slice none 0 0) (.slice none 0 0)).1
                (try simp only [Exit.inBlock, Exit.then])
                refine bodyPost_ret (results_pd rfl _ _ ⟨k2, 0, none⟩ (.slice none 0 0) (.slice none 0 0) (iv 13) rfl rfl r0 r1) rfl ?_
                exact dc_bad BADV.out (D9.out.res (.slice none 0 0) (.slice none 0 0)).2
              · have hk2 : ¬ (k : Int) < n2 := hex.elim id (fun e => by rw [hb1] at e; cases e)
                rw [hb1] at x1
                have HB1 := Lib.hid hb1
                have hb4 : (bk == t) = false := by simpa using hb3
                have hb5 : ((⟨bk.toArray⟩ : ByteArray) = ⟨t.toArray⟩) = False := by simpa using hb3
                clear hex hb1
                go_upto_region 19 with (go_at_call 14; refine (CE.out).mono ?_; rintro e W9 ⟨rfl, g9⟩; have D9 := Lib.hid (RD0.out.gr g9); clear g9)
                clear x0 x1 g0 g1 y0 y1 yf0 yf1
                obtain ⟨x0, x1, -, -⟩ := dcel2 D9.out.r
                rw [HB1.out] at x1
                obtain ⟨y0, y1, yf0, yf1⟩ := dcel2 D9.out.z
                go_wp2
                obtain ⟨r0, r1, -, -⟩ := dcel2 (D9.out.res (.slice none 0 0) (.slice none 0 0)).1
                (try simp only [Exit.inBlock, Exit.then])
                refine bodyPost_ret (results_pd rfl _ _ ⟨k2, 0, none⟩ (.slice none 0 0) (.slice none 0 0) (iv 13) rfl rfl r0 r1) rfl ?_
                exact dc_bad BADV.out (D9.out.res (.slice none 0 0) (.slice none 0 0)).2
end Go.Proofs.YtgboboljgcfggaaGreatDoor
