/- Walk: Decode. -/
import Derived.Test.YtgboboljgcfggaaGreatDoorDeW
import Derived.Test.YtgboboljgcfggaaGreatDoorM7
namespace Go.Proofs.YtgboboljgcfggaaGreatDoor
open Go.RowKit

/-- What Decode leaves. -/
structure DcX (t : T) (w : World) (X : Prg) (w' : World) : Prop where
  r : X.Rd w'
  p : X.pp = (decV t).1
  g : Gr w w'
  b : X.bs.length ≤ 100001
  s : X.ss.length ≤ 100001
  i : ∀ b ∈ X.bs, b.ins.length ≤ 100001
  l : X.Len
def DcP (t : T) (w : World) (e : Ending) (w' : World) : Prop := ∃ X : Prg, e = .returned (.tuple #[X.v, iv (decV t).2]) ∧ DcX t w X w'
theorem dc_bad {t : T} {w w' : World} (h : decV t = (⟨[], []⟩, 13)) (g : Gr w w') : DcP t w (.returned (.tuple #[.agg #[.slice none 0 0, .slice none 0 0], iv 13])) w' :=
  ⟨⟨none, 0, [], none, 0, []⟩, by rw [h]; rfl, ⟨⟨.inl rfl, by simp, .inl rfl⟩, by rw [h]; rfl, g, by simp, by simp, by simp, by simp, by simp, by simp, by simp, by simp⟩⟩
theorem InsAt.gr {base : Nat} {v1 v2 : Value} {V V' : World} {x : Blk} (h : InsAt base v1 v2 V x) (g : Gr V V') : InsAt base v1 v2 V' x := ⟨h.1.gr g, fun a e => ⟨(h.2 a e).1, Nat.lt_of_lt_of_le (h.2 a e).2.1 g.size, (h.2 a e).2.2⟩⟩
attribute [local irreducible] Calls in
set_option maxRecDepth 100000 in
set_option maxHeartbeats 8000000 in
theorem decode_any (t : T) (w : World) (hl : t.length ≤ 90000) : Calls Tryz.prog 7 #[.string ⟨t.toArray⟩] w (DcP t w) := by
  obtain ⟨n1, s1, e1⟩ : ∃ n s', rdN ⟨t, false⟩ = (n, s') := ⟨_, _, rfl⟩
  obtain ⟨pbs, s2, e2⟩ : ∃ n s', rdL (rdB true) n1.toNat s1 [] = (n, s') := ⟨_, _, rfl⟩
  obtain ⟨n2, s3, e3⟩ : ∃ n s', rdN s2 = (n, s') := ⟨_, _, rfl⟩
  obtain ⟨sts, s4, e4⟩ : ∃ n s', rdL rdS n2.toNat s3 [] = (n, s') := ⟨_, _, rfl⟩
  have EP := Lib.hid (show rdP true ⟨t, false⟩ = (⟨pbs, sts⟩, s4) from by unfold rdP; simp only [e1, e2, e3, e4])
  have a1 := rdN_nn ⟨t, false⟩
  have a2 := rdN_le ⟨t, false⟩
  have a3 := rdN_nn s2
  have a4 := rdN_le s2
  have a5 := (rdN_con ⟨t, false⟩).1
  have a6 := (rdL_con (rdB_con true) n1.toNat s1 []).1
  have a7 := (rdN_con s2).1
  rw [e1] at a1 a2 a5
  rw [e3] at a3 a4 a7
  rw [e2] at a6
  simp only at a1 a2 a3 a4 a5 a6 a7
  have HL1 := Lib.hid (show s1.rest.length ≤ 90000 from by omega)
  have HL2 := Lib.hid (show s2.rest.length ≤ 90000 from by omega)
  have HL3 := Lib.hid (show s3.rest.length ≤ 90000 from by omega)
  have R1 := Lib.hid (fun rb W (h : RdS rb ⟨t, false⟩ W) => (show Calls Tryz.prog 23 #[.pointer (some ⟨rb, 0, none⟩)] W (RdP rb (iv n1) s1 W) from by have := rnum_any rb ⟨t, false⟩ W h (by show t.length ≤ _; omega); rwa [e1] at this))
  have R2 := Lib.hid (fun rb W (h : RdS rb s2 W) => (show Calls Tryz.prog 23 #[.pointer (some ⟨rb, 0, none⟩)] W (RdP rb (iv n2) s3 W) from by have := rnum_any rb s2 W h (by omega); rwa [e3] at this))
  have E2 := Lib.hid e2
  have E4 := Lib.hid e4
  have N1 := Lib.hid (show 0 ≤ n1 ∧ 0 ≤ n2 from ⟨a1, a3⟩)
  clear e1 e2 e3 e4 a1 a3 a5 a6 a7 hl
  obtain ⟨k2, hk2⟩ : ∃ k, w.heap.size = k := ⟨_, rfl⟩
  have D0 := Lib.hid (show DS w (k2 + 1) k2 (k2 + 1 + 1) (k2 + 3) ⟨t, false⟩ (.slice none 0 0) (.slice none 0 0) [] [] (((w.alloc (.cells #[.slice none 0 0, .slice none 0 0] 26)).alloc (.cells #[.string ⟨t.toArray⟩, .bool false] 74)).alloc (.cells #[.slice none 0 0, .slice none 0 0] 26)) from by
    subst hk2
    exact ⟨gr_h (gr_al _ _) (al_at _ _ (by simp)), gr_h ((gr_al _ _).trans (gr_al _ _)) (al_new _ _), al_at _ _ (by simp), OR.nil, OR.nil, (fun j e => by cases e), (fun x hx => by cases hx), ((gr_al _ _).trans (gr_al _ _)).trans (gr_al _ _), by omega, by omega, by omega, by omega, by omega, by omega, by omega, by omega, by omega, by simp⟩)
  go_enter Tryz.func7, Tryz.ntmps7
  go_upto_region 3 with fail
  clear hk2
  generalize ((w.alloc (.cells #[.slice none 0 0, .slice none 0 0] 26)).alloc (.cells #[.string ⟨t.toArray⟩, .bool false] 74)).alloc (.cells #[.slice none 0 0, .slice none 0 0] 26) = W0 at *
  obtain ⟨rb, hrb⟩ : ∃ r, k2 + 1 = r := ⟨_, rfl⟩
  obtain ⟨kp, hkp⟩ : ∃ r, rb + 1 = r := ⟨_, rfl⟩
  obtain ⟨base, hbase⟩ : ∃ r, k2 + 3 = r := ⟨_, rfl⟩
  rw [hrb, hkp, hbase] at D0
  rw [hrb, hkp]
  clear hrb hkp hbase
  go_upto_region 4 with (go_at_call 23; refine (R1.out rb _ D0.out.r).mono ?_; rintro e W1 ⟨rfl, r, g⟩; have D1 := Lib.hid (D0.out.rd r g); clear r g)
  go_wp2
  go_loopw [7] (fun u W => ∃ (j : Nat) (A1 : Option Addr) (m1 c1 : Nat) (Bs : List Blk) (s' : RS), (j : Int) ≤ 1099511627776 ∧ u = .int .i64 j ∧ Bs.length = m1 ∧ Hid (DS w rb k2 kp base s' (.slice A1 m1 c1) (.slice none 0 0) Bs [] W ∧ LRS (rdB true) n1 s1 j (Bs.map Blk.pb) s' ∧ ∀ x ∈ Bs, x.ins.length ≤ 90001 ∧ ∀ y ∈ x.ins, y.name.length ≤ 65536)) (fun _ W => msrAt rb W)
  case atStart => exact ⟨0, none, 0, 0, [], s1, by omega, rfl, rfl, Lib.hid ⟨D1.out, LRS.start N1.out.1, by simp⟩⟩
  case round =>
    obtain ⟨j, A1, m1, c1, Bs, s', hj, rfl, hm, HX⟩ := hrel
    have HM := Lib.hid hm
    clear hm
    obtain ⟨x0, x1, g0, g1⟩ := HX.out.1.r.c
    have GO : (j : Int) < n1 ∧ s'.bad = false ∨ ¬ (j : Int) < n1 ∨ (j : Int) < n1 ∧ s'.bad = true := by
      by_cases h1 : (j : Int) < n1
      · cases h2 : s'.bad with
        | false => exact .inl ⟨h1, rfl⟩
        | true => exact .inr (.inr ⟨h1, rfl⟩)
      · exact .inr (.inl h1)
    rcases GO with ⟨hlt, hb⟩ | hex
    · obtain ⟨rest, bad⟩ := s'
      simp only at hb
      subst hb
      have hls := HX.out.2.1.l
      simp only [Bool.false_eq_true, if_false, List.length_map] at hls
      obtain ⟨cap, pm, ins, u, hE⟩ : ∃ cap pm ins u, rdB true ⟨rest, false⟩ = (⟨cap, pm, ins⟩, u) := ⟨_, _, _, _, rfl⟩
      obtain ⟨xn, hxn⟩ : ∃ n, ins.length = n := ⟨_, rfl⟩
      have IL := rdB_len true ⟨rest, false⟩
      rw [hE] at IL
      simp only at IL
      have hl1 := HL1.out
      have ILH := Lib.hid (show ins.length ≤ 90001 ∧ ∀ y ∈ ins, y.name.length ≤ 65536 from ⟨by omega, IL.2⟩)
      have C1 := Lib.hid (fun W (h : RdS rb ⟨rest, false⟩ W) => show Calls Tryz.prog 24 #[.pointer (some ⟨rb, 0, none⟩)] W (fun e V' => ∃ (xA : Option Addr) (xc : Nat), e = .returned (.agg #[.int .i64 cap, .bool pm, .slice xA xn xc]) ∧ OR 71 4 Ins.cs V' W.heap.size (.slice xA xn xc) ins ∧ RdS rb u V' ∧ W.grownBy V' (some rb)) from by
        have h2 := dblock_any rb ⟨rest, false⟩ W h (by show rest.length ≤ _; omega)
        unfold DbP at h2
        rw [hE] at h2
        refine h2.mono ?_
        rintro e V' ⟨v, rfl, o, r, g⟩
        obtain ⟨xA, xc, rfl, -⟩ := o.form elI.hn
        rw [hxn] at o ⊢
        exact ⟨xA, xc, rfl, o, r, g⟩)
      have F0 := Lib.hid (HX.out.1.gr (gr_drew wr))
      have HLL := Lib.hid (show Bs.length + 1 ≤ 1000000 from by omega)
      have NX := Lib.hid (fun (xA : Option Addr) (xc : Nat) => show LRS (rdB true) n1 s1 (j + 1) ((Bs ++ [(⟨cap, pm, xA, xc, ins⟩ : Blk)]).map Blk.pb) u from by have h := HX.out.2.1.next (rdB_con true _) hlt rfl; rw [hE] at h; rw [List.map_append]; exact h)
      have NI := Lib.hid (fun (xA : Option Addr) (xc : Nat) => show ∀ x ∈ Bs ++ [(⟨cap, pm, xA, xc, ins⟩ : Blk)], x.ins.length ≤ 90001 ∧ ∀ y ∈ x.ins, y.name.length ≤ 65536 from fun x hx => by
        rcases List.mem_append.1 hx with h1 | h1
        · exact HX.out.2.2 x h1
        · simp only [List.mem_cons, List.not_mem_nil, or_false] at h1
          rw [h1]
          exact ILH.out)
      have ML := Lib.hid (show msr u < msr ⟨rest, false⟩ from by have h := msr_lt (rdB_con true ⟨rest, false⟩) rfl; rwa [hE] at h)
      have MS := Lib.hid (msrAt_eq HX.out.1.r)
      obtain ⟨y0, -, z0, -⟩ := HX.out.1.c
      clear hE hxn IL hl1 hls HX
      go_upto_region 7 with fail
      clear x0 x1 g0 g1
      go_region_law (first
        | (refine step_app elB rfl (.tmp 27) (.tmp 30) rfl base rfl HOA.out (A := some ⟨w1.heap.size, 0, none⟩) (M := [⟨cap, pm, xA, xc, ins⟩]) (m := 1) (c := 1) rfl rfl HRD.out (by have := HLL.out; simp; omega) HBA.out ?_
           intro v7 w7 o7 g7 b7
           obtain ⟨A7, c7, rfl⟩ := app_blk HM.out o7
           obtain ⟨-, z7, -, y7, -⟩ := F2.out.mid g7 (fun j e => (F2.out.o1.lt j e).1)
           have P7 := Lib.hid (F2.out.putB NB.out g7 o7 b7)
           clear o7 g7 b7)
        | (go_simp; go_at_call 24; refine (C1.out _ F0.out.r).mono ?_; rintro e w1 ⟨xA, xc, rfl, o, r, g⟩
           have F1 := Lib.hid (F0.out.rd r g)
           have F2 := Lib.hid (F1.out.gr (gr_al w1 (.cells #[.int .i64 cap, .bool pm, .slice xA xn xc] 69)))
           have NB := Lib.hid ((ins_at (x := (⟨cap, pm, xA, xc, ins⟩ : Blk)) F0.out.o1 F0.out.o2 F0.out.lt.2.2.2.2.2.2.2.2.2 rfl o).gr (gr_al w1 (.cells #[.int .i64 cap, .bool pm, .slice xA xn xc] 69)))
           have HOA := Lib.hid F2.out.o1
           have HBA := Lib.hid F2.out.lt.2.2.2.2.2.2.2.2.2
           have HRD := Lib.hid (show RD 3 Blk.cs (w1.alloc (.cells #[.int .i64 cap, .bool pm, .slice xA xn xc] 69)) (some ⟨w1.heap.size, 0, none⟩) [⟨cap, pm, xA, xc, ins⟩] from rd_cells (t := 69) elB.hn (by
             have e9 : ins.length = xn := by
               obtain ⟨B9, d9, e9, -⟩ := o.form elI.hn
               exact (Value.slice.inj e9).2.1.symm
             have h9 := al_new w1 (.cells #[.int .i64 cap, .bool pm, .slice xA xn xc] 69)
             rw [← e9] at h9 ⊢
             exact h9))
           obtain ⟨y1, -, z1, -⟩ := F1.out.c
           obtain ⟨y2, -, z2, -⟩ := F2.out.c
           clear o r g F0))
      all_goals go_wp2
      all_goals exact ⟨⟨j + 1, A7, m1 + 1, c7, Bs ++ [⟨cap, pm, xA, xc, ins⟩], u, by omega, by simp, by simp [HM.out], Lib.hid ⟨P7.out, NX.out xA xc, NI.out xA xc⟩⟩, by rw [MS.out, msrAt_eq P7.out.r]; exact ML.out⟩
    · rcases hex with hex1 | ⟨hlt2, hb2⟩
      all_goals
        obtain ⟨qb, qs⟩ := Prod.mk.inj ((HX.out.2.1.fin (by first | exact .inl hex1 | exact .inr hb2)).symm.trans E2.out)
        try rw [hb2] at x1
        subst qs
        have QB := Lib.hid qb
        have NI := Lib.hid HX.out.2.2
        have LB := Lib.hid (show Bs.length ≤ 90001 from by
          have h := HX.out.2.1.l
          rw [List.length_map] at h
          have h2 := HL1.out
          have h3 : (if s'.bad then 1 else 0) ≤ 1 := by split <;> omega
          omega)
        have D2 := Lib.hid HX.out.1
        clear qb HX
        try clear hb2
        go_upto_region 9 with (go_at_call 23; refine (R2.out rb _ D2.out.r).mono ?_; rintro e W3 ⟨rfl, r, g⟩; have D3 := Lib.hid (D2.out.rd r g); clear r g)
        clear x0 x1 g0 g1
        try clear hex1
        try clear hlt2
        go_wp2
        go_loopw [8] (fun u W => ∃ (k : Nat) (A2 : Option Addr) (m2 c2 : Nat) (Ss : List Stt) (s' : RS), (k : Int) ≤ 1099511627776 ∧ u = .int .i64 k ∧ Ss.length = m2 ∧ Hid (DS w rb k2 kp base s' (.slice A1 m1 c1) (.slice A2 m2 c2) Bs Ss W ∧ LRS rdS n2 s3 k Ss s' ∧ ∀ x ∈ Ss, x.pack.length ≤ 65536)) (fun _ W => msrAt rb W)
        case atStart => exact ⟨0, none, 0, 0, [], s3, by omega, rfl, rfl, Lib.hid ⟨D3.out, LRS.start N1.out.2, by simp⟩⟩
        case round =>
          obtain ⟨k, A2, m2, c2, Ss, s', hk, rfl, hm2, HX⟩ := hrel
          have HM2 := Lib.hid hm2
          clear hm2 D2 D3
          obtain ⟨x0, x1, g0, g1⟩ := HX.out.1.r.c
          have GO : (k : Int) < n2 ∧ s'.bad = false ∨ ¬ (k : Int) < n2 ∨ s'.bad = true := by
            by_cases h1 : (k : Int) < n2
            · cases h2 : s'.bad with
              | false => exact .inl ⟨h1, rfl⟩
              | true => exact .inr (.inr rfl)
            · exact .inr (.inl h1)
          rcases GO with ⟨hlt, hb⟩ | hex
          · obtain ⟨rest, bad⟩ := s'
            simp only at hb
            subst hb
            have hls := HX.out.2.1.l
            simp only [Bool.false_eq_true, if_false] at hls
            obtain ⟨t1, u1, e1⟩ : ∃ n s', rdT ⟨rest, false⟩ = (n, s') := ⟨_, _, rfl⟩
            obtain ⟨n2x, u2, e2⟩ : ∃ n s', rdN u1 = (n, s') := ⟨_, _, rfl⟩
            obtain ⟨n3, u3, e3⟩ : ∃ n s', rdN u2 = (n, s') := ⟨_, _, rfl⟩
            have EI := Lib.hid (show rdS ⟨rest, false⟩ = (⟨t1, n2x, n3⟩, u3) from by
              unfold rdS
              simp only [e1, e2, e3])
            have q1 := (rdT_con ⟨rest, false⟩).1
            have q2 := (rdN_con u1).1
            have tl := rdT_len ⟨rest, false⟩
            rw [e1] at q1 tl
            rw [e2] at q2
            simp only at q1 q2 tl
            have hl4 := HL3.out
            have C1 := Lib.hid (fun W (h : RdS rb ⟨rest, false⟩ W) => show Calls Tryz.prog 25 #[.pointer (some ⟨rb, 0, none⟩)] W (RdP rb (.string ⟨t1.toArray⟩) u1 W) from by have := rtext_any rb _ W h (by show rest.length ≤ _; omega); rwa [e1] at this)
            have C2 := Lib.hid (fun W (h : RdS rb u1 W) => show Calls Tryz.prog 23 #[.pointer (some ⟨rb, 0, none⟩)] W (RdP rb (iv n2x) u2 W) from by have := rnum_any rb _ W h (by omega); rwa [e2] at this)
            have C3 := Lib.hid (fun W (h : RdS rb u2 W) => show Calls Tryz.prog 23 #[.pointer (some ⟨rb, 0, none⟩)] W (RdP rb (iv n3) u3 W) from by have := rnum_any rb _ W h (by omega); rwa [e3] at this)
            have F0 := Lib.hid (HX.out.1.gr (gr_drew wr))
            have HLL := Lib.hid (show Ss.length + 1 ≤ 1000000 from by omega)
            have NX := Lib.hid (show LRS rdS n2 s3 (k + 1) (Ss ++ [⟨t1, n2x, n3⟩]) u3 from by have h := HX.out.2.1.next (rdS_con _) hlt rfl; rwa [EI.out] at h)
            have NS := Lib.hid (show ∀ x ∈ Ss ++ [(⟨t1, n2x, n3⟩ : Stt)], x.pack.length ≤ 65536 from fun x hx => by
              rcases List.mem_append.1 hx with h1 | h1
              · exact HX.out.2.2 x h1
              · simp only [List.mem_cons, List.not_mem_nil, or_false] at h1
                rw [h1]
                exact tl)
            have ML := Lib.hid (show msr u3 < msr ⟨rest, false⟩ from by have h := msr_lt (rdS_con ⟨rest, false⟩) rfl; rwa [EI.out] at h)
            have MS := Lib.hid (msrAt_eq HX.out.1.r)
            obtain ⟨-, y0, -, z0⟩ := HX.out.1.c
            clear e1 e2 e3 q1 q2 tl hl4 hls HX
            go_upto_region 12 with fail
            clear x0 x1 g0 g1
            go_region_law (first
              | (refine step_app elSt rfl (.tmp 48) (.tmp 57) rfl base rfl HOA.out (A := some ⟨w3.heap.size, 0, none⟩) (M := [⟨t1, n2x, n3⟩]) (m := 1) (c := 1) rfl rfl (rd_cells (t := 79) elSt.hn (al_new _ _)) (by have := HLL.out; simp; omega) HBA.out ?_
                 intro v7 w7 o7 g7 b7
                 obtain ⟨A7, c7, rfl⟩ := app_stt HM2.out o7
                 obtain ⟨-, -, z7, -, y7⟩ := F4.out.mid g7 (fun j e => (F4.out.o2.lt j e).1)
                 have P7 := Lib.hid (F4.out.putS g7 o7 b7)
                 clear o7 g7 b7)
              | (go_simp; go_at_call 25; refine (C1.out _ F0.out.r).mono ?_; rintro e w1 ⟨rfl, r, g⟩; have F1 := Lib.hid (F0.out.rd r g); clear r g F0; obtain ⟨-, y1, -, z1⟩ := F1.out.c)
              | (go_simp; go_at_call 23; refine (C2.out _ F1.out.r).mono ?_; rintro e w2 ⟨rfl, r, g⟩; have F2 := Lib.hid (F1.out.rd r g); clear r g F1; obtain ⟨-, y2, -, z2⟩ := F2.out.c)
              | (go_simp; go_at_call 23; refine (C3.out _ F2.out.r).mono ?_; rintro e w3 ⟨rfl, r, g⟩; have F3 := Lib.hid (F2.out.rd r g); clear r g F2; obtain ⟨-, y3, -, z3⟩ := F3.out.c
                 have F4 := Lib.hid (F3.out.gr (gr_al w3 (.cells #[.string ⟨t1.toArray⟩, .int .i64 n2x, .int .i64 n3] 79)))
                 have HOA := Lib.hid F4.out.o2
                 have HBA := Lib.hid F4.out.lt.2.2.2.2.2.2.2.2.2
                 obtain ⟨-, y4, -, z4⟩ := F4.out.c))
            all_goals go_wp2
            all_goals exact ⟨⟨k + 1, A7, m2 + 1, c7, Ss ++ [⟨t1, n2x, n3⟩], u3, by omega, by simp, by simp [HM2.out], Lib.hid ⟨P7.out, NX.out, NS.out⟩⟩, by rw [MS.out, msrAt_eq P7.out.r]; exact ML.out⟩
          · obtain ⟨qc, qs⟩ := Prod.mk.inj ((HX.out.2.1.fin hex).symm.trans E4.out)
            subst qs
            subst qc
            have LS := Lib.hid (show Ss.length ≤ 90001 from by
              have h := HX.out.2.1.l
              have h2 := HL3.out
              have h3 : (if s'.bad then 1 else 0) ≤ 1 := by split <;> omega
              omega)
            have NS := Lib.hid HX.out.2.2
            have XP := Lib.hid (show (⟨A1, c1, Bs, A2, c2, Ss⟩ : Prg).pp = ⟨pbs, Ss⟩ from by unfold Prg.pp; simp only [QB.out])
            have XL := Lib.hid (show (⟨A1, c1, Bs, A2, c2, Ss⟩ : Prg).Len from ⟨by show Bs.length ≤ _; have := LB.out; omega, by show Ss.length ≤ _; have := LS.out; omega, fun b hb => by have := (NI.out b hb).1; omega, fun b hb x hx => by have := (NI.out b hb).2 x hx; omega, fun x hx => by have := NS.out x hx; omega⟩)
            have EQE := Lib.hid (show errP ⟨A1, c1, Bs, A2, c2, Ss⟩ = errQ pbs Ss from by rw [errP_pl]; simp only [QB.out])
            have hlz : w.heap.size ≤ k2 := HX.out.1.lt.2.1
            obtain ⟨rest, bad⟩ := s'
            simp only at x0 x1
            cases bad with
            | true =>
              have BADV := Lib.hid (show decV t = (⟨[], []⟩, 13) from by unfold decV; rw [EP.out]; simp)
              clear hex
              by_cases hk2 : (k : Int) < n2
              all_goals
                obtain ⟨y0, y1, yf0, yf1⟩ := dcel2 HX.out.1.z
                go_wp2
                obtain ⟨r0, r1, -, -⟩ := dcel2 (dset2 (dset2 HX.out.1.z (.slice none 0 0)).1 (.slice none 0 0)).2
                (try simp only [Exit.inBlock, Exit.then])
                refine bodyPost_ret (results_pd rfl _ _ ⟨k2, 0, none⟩ (.slice none 0 0) (.slice none 0 0) (iv 13) rfl rfl r0 r1) rfl ?_
                exact dc_bad BADV.out (gr_but (gr_but HX.out.1.g (grown_set k2 0 _) (fun j e => by have := Option.some.inj e; have := HX.out.1.lt; omega)) (grown_set k2 1 _) (fun j e => by have := Option.some.inj e; have := HX.out.1.lt; omega))
            | false =>
              have hk2 : ¬ (k : Int) < n2 := hex.elim id (fun e => by cases e)
              clear hex
              obtain ⟨er, her⟩ : ∃ z, errQ pbs Ss = z := ⟨_, rfl⟩
              have HER := Lib.hid her
              have CK := Lib.hid (show Calls Tryz.prog 26 #[.agg #[.slice A1 m1 c1, .slice A2 m2 c2]] wr (fun e w' => e = .returned (.int .i64 er) ∧ Gr wr w') from by
                have h := check_any ⟨A1, c1, Bs, A2, c2, Ss⟩ wr HX.out.1.prg XL.out.b XL.out.s XL.out.i XL.out.n XL.out.k
                rw [EQE.out, her] at h
                unfold Prg.v at h
                simp only [HM.out, HM2.out] at h
                exact h.mono fun e w' ⟨h1, h2⟩ => ⟨h1, gr_of h2⟩)
              clear her
              by_cases hr : rest = []
              · subst hr
                obtain ⟨c0, c1', cf0, cf1⟩ := HX.out.1.c
                by_cases h0 : er = 0
                · subst h0
                  have GOOD := Lib.hid (show decV t = (⟨pbs, Ss⟩, 0) from by unfold decV; rw [EP.out]; simp [HER.out])
                  go_upto_region 15 with (go_at_call 26; refine CK.out.mono ?_; rintro e W9 ⟨rfl, g9⟩; have HX := Lib.hid (show DS w rb k2 kp base ⟨[], false⟩ (.slice A1 m1 c1) (.slice A2 m2 c2) Bs Ss W9 ∧ True from ⟨HX.out.1.gr g9, trivial⟩); clear g9)
                  clear x0 x1 g0 g1 c0 c1' cf0 cf1
                  obtain ⟨c0, c1', cf0, cf1⟩ := HX.out.1.c
                  obtain ⟨y0, y1, yf0, yf1⟩ := dcel2 HX.out.1.z
                  go_wp2
                  obtain ⟨r0, r1, -, -⟩ := dcel2 (dset2 (dset2 HX.out.1.z (.slice A1 m1 c1)).1 (.slice A2 m2 c2)).2
                  (try simp only [Exit.inBlock, Exit.then])
                  refine bodyPost_ret (results_pd rfl _ _ ⟨k2, 0, none⟩ (.slice A1 m1 c1) (.slice A2 m2 c2) (iv 0) rfl rfl r0 r1) rfl ?_
                  have g1 := (grown_set (w := W9) k2 0 (.slice A1 m1 c1)).trans (grown_set k2 1 (.slice A2 m2 c2))
                  have hk : ∀ q, q ≠ k2 → ((W9.setCell ⟨k2, 0, none⟩ (.slice A1 m1 c1)).setCell ⟨k2, 1, none⟩ (.slice A2 m2 c2)).heap[q]? = W9.heap[q]? := fun q hq => (set_oth _ hq).trans (set_oth _ hq)
                  obtain ⟨l1, l2, l3, l4, l5, l6, l7, l8, l9, l0⟩ := HX.out.1.lt
                  have PR := HX.out.1.prg
                  refine ⟨⟨A1, c1, Bs, A2, c2, Ss⟩, by rw [GOOD.out]; unfold Prg.v; simp only [HM.out, HM2.out], ⟨?_, by rw [XP.out, GOOD.out], gr_but HX.out.1.g g1 (fun j e => by have := Option.some.inj e; omega), by show Bs.length ≤ _; have := LB.out; omega, by show Ss.length ≤ _; have := LS.out; omega, fun b hb => by have := (NI.out b hb).1; omega, XL.out⟩⟩
                  refine ⟨?_, ?_, ?_⟩
                  · obtain ⟨B1, d1, e1, r1⟩ := (HX.out.1.o1.kept g1 (or_ne HX.out.1.o1 l8)).form elB.hn
                    rw [← (Value.slice.inj e1).1] at r1
                    exact r1
                  · intro x hx
                    obtain ⟨q1, q2⟩ := HX.out.1.i x hx
                    exact q1.but g1 (fun a e => by have := (q2 a e).1; intro e2; have := Option.some.inj e2; omega)
                  · obtain ⟨B1, d1, e1, r1⟩ := (HX.out.1.o2.kept g1 (or_ne HX.out.1.o2 l8)).form elSt.hn
                    rw [← (Value.slice.inj e1).1] at r1
                    exact r1
                · have e0 : (er != 0) = true := by simpa using h0
                  have BADV := Lib.hid (show decV t = (⟨[], []⟩, 13) from by unfold decV; rw [EP.out]; simp [HER.out, h0])
                  go_upto_region 14 with (go_at_call 26; refine CK.out.mono ?_; rintro e W9 ⟨rfl, g9⟩; have HX := Lib.hid (show DS w rb k2 kp base ⟨[], false⟩ (.slice A1 m1 c1) (.slice A2 m2 c2) Bs Ss W9 ∧ True from ⟨HX.out.1.gr g9, trivial⟩); clear g9)
                  clear x0 x1 g0 g1 c0 c1' cf0 cf1
                  obtain ⟨y0, y1, yf0, yf1⟩ := dcel2 HX.out.1.z
                  go_wp2
                  obtain ⟨r0, r1, -, -⟩ := dcel2 (dset2 (dset2 HX.out.1.z (.slice none 0 0)).1 (.slice none 0 0)).2
                  (try simp only [Exit.inBlock, Exit.then])
                  refine bodyPost_ret (results_pd rfl _ _ ⟨k2, 0, none⟩ (.slice none 0 0) (.slice none 0 0) (iv 13) rfl rfl r0 r1) rfl ?_
                  exact dc_bad BADV.out (gr_but (gr_but HX.out.1.g (grown_set k2 0 _) (fun j e => by have := Option.some.inj e; have := HX.out.1.lt; omega)) (grown_set k2 1 _) (fun j e => by have := Option.some.inj e; have := HX.out.1.lt; omega))
              · have hne : ({ data := rest.toArray } : ByteArray) ≠ { data := #[] } := by simpa using hr
                have BADV := Lib.hid (show decV t = (⟨[], []⟩, 13) from by unfold decV; rw [EP.out]; simp [hr])
                obtain ⟨y0, y1, yf0, yf1⟩ := dcel2 HX.out.1.z
                go_wp2
                obtain ⟨r0, r1, -, -⟩ := dcel2 (dset2 (dset2 HX.out.1.z (.slice none 0 0)).1 (.slice none 0 0)).2
                (try simp only [Exit.inBlock, Exit.then])
                refine bodyPost_ret (results_pd rfl _ _ ⟨k2, 0, none⟩ (.slice none 0 0) (.slice none 0 0) (iv 13) rfl rfl r0 r1) rfl ?_
                exact dc_bad BADV.out (gr_but (gr_but HX.out.1.g (grown_set k2 0 _) (fun j e => by have := Option.some.inj e; have := HX.out.1.lt; omega)) (grown_set k2 1 _) (fun j e => by have := Option.some.inj e; have := HX.out.1.lt; omega))
end Go.Proofs.YtgboboljgcfggaaGreatDoor
