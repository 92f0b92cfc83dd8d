/- Walk: Link of the reference. -/
import Derived.Test.YtgboboljgcfggaaDoorRl0
import Derived.StillTailTactics
namespace Go.Proofs.YtgboboljgcfggaaDoor
open Go.RowKit Go.Maps

attribute [local irreducible] Calls in
set_option maxRecDepth 100000 in
set_option maxHeartbeats 8000000 in
theorem rlink_any (w : World) (Ad Ar : Option Addr) (cp cr nc nr : Nat) (L : List Cod) (R : List Nam) (hL : CRd w Ad L) (hnc : L.length = nc) (hncl : nc ≤ 100000) (hlim : ∀ x ∈ L, x.Lim) (hil : ∀ c ∈ L, ∀ b ∈ c.bs, b.ins.length ≤ 90000) (hsp : (spots (pls L)).length ≤ 800)
    (hR : RD 2 Nam.cs w Ar R) (hnr : R.length = nr) (hrl : nr ≤ 12) (hok : ∀ n ∈ R, n.Ok) :
    Calls Tryd.prog 10 #[.slice Ad nc cp, .slice Ar nr cr] w (RlP L R w) := by
  have HL := Lib.hid (fun V (g : Gr w V) => hL.gr g)
  have HR := Lib.hid (fun V (g : Gr w V) => hR.gr g)
  have HLIM := Lib.hid hlim
  have HIL := Lib.hid hil
  have HNC := Lib.hid hnc
  have HNR := Lib.hid hnr
  have HOK := Lib.hid hok
  have HSP := Lib.hid hsp
  obtain ⟨e0, he0⟩ : ∃ e, errL L = e := ⟨_, rfl⟩
  have E0 := Lib.hid he0
  have CC := Lib.hid (fun V (g : Gr w V) => show Calls Tryd.prog 30 #[.slice Ad nc cp] V (fun e w' => e = .returned (.int .i64 e0) ∧ Gr V w') from by
    have h := rcheckCodes_any Ad cp L V (hL.gr g) (by omega) hlim
    rw [hnc, he0] at h
    exact h)
  have GA := Lib.hid (gr_al w (.cells #[.slice none 0 0, .slice none 0 0] 29))
  have P4 := Lib.hid (al_new w (.cells #[.slice none 0 0, .slice none 0 0] 29))
  clear hL hR hlim hil hnc hnr hok hsp he0
  go_enter Tryd.func10, Tryd.ntmps10
  go_upto_region 2 with (go_at_call 30; refine (CC.out _ GA.out).mono ?_; rintro e W1 ⟨rfl, g1⟩; have P41 := Lib.hid (gr_h g1 P4.out); have G1 := Lib.hid (GA.out.trans g1); clear g1)
  obtain ⟨x0, x1⟩ := ic2 P41.out
  have f4 := frz P41.out
  by_cases h0 : e0 = 0
  · subst h0
    have OK0 := Lib.hid (okl_of E0.out)
    have CS := Lib.hid OK0.out.cs
    clear x0 x1 f4
    go_upto_region 6 with (fail)
    have S0 := Lib.hid (show RlS w (W1.heap.size + 1) none 0 [] (some ⟨W1.heap.size, 0, none⟩) [] ((W1.alloc (.cells #[] 84)).alloc (.cells #[.slice none 0 0, .slice none 0 0] 29)) from
      ⟨G1.out.trans ((gr_al _ _).trans (gr_al _ _)), gr_h ((gr_al _ _).trans (gr_al _ _)) P41.out, al_at _ _ (by simp), .inl rfl, ⟨Nat.zero_le _, by omega, fun _ => rfl⟩, .inl rfl⟩)
    have HB8 := Lib.hid (show w.heap.size < W1.heap.size + 1 from by have := G1.out.size; omega)
    obtain ⟨b8, hb8⟩ : ∃ m, W1.heap.size + 1 = m := ⟨_, rfl⟩
    rw [hb8] at S0 HB8
    try rw [hb8]
    generalize (W1.alloc (.cells #[] 84)).alloc (.cells #[.slice none 0 0, .slice none 0 0] 29) = V0 at *
    have A70 : ∃ q, q = some (⟨W1.heap.size, 0, none⟩ : Addr) := ⟨_, rfl⟩
    obtain ⟨A70, hA70⟩ := A70
    rw [← hA70] at S0
    try rw [← hA70]
    clear hb8 hA70 G1 P41 GA P4 CC
    go_upto_region 7 with (fail)
    go_loopw [7, 9] (fun u7 u9 V => ∃ (i k7 c7 : Nat) (A7 : Option Addr) (K : List Sp) (As : Option Addr) (ns cs : Nat) (ss : List Stt), i ≤ nr ∧ u7 = .slice A7 k7 c7 ∧ u9 = .int .i64 i ∧ Hid (RlS w b8 As cs ss A7 K V ∧ K.length = k7 ∧ ss.length = ns ∧ rootsK (pls L) [] ((R.take i).map Nam.pr) = some K ∧ ss = startsOf (rootN L K) ((R.take i).map Nam.pr) ∧ Kn (pls L) K)) (fun _ u _ => nr - (intOf u).toNat)
    case atStart => exact ⟨0, 0, 0, A70, [], none, 0, 0, [], Nat.zero_le _, rfl, rfl, Lib.hid ⟨S0.out, rfl, rfl, rfl, rfl, nil_kn _⟩⟩
    case round =>
      clear S0
      obtain ⟨i, k7, c7, A7, K, As, ns, cs, ss, hi, rfl, rfl, HS⟩ := hrel
      have S1 := Lib.hid HS.out.1
      have HK := Lib.hid HS.out.2.1
      have HNS := Lib.hid HS.out.2.2.1
      have RK := Lib.hid HS.out.2.2.2.1
      have SS := Lib.hid HS.out.2.2.2.2.1
      have KN := Lib.hid HS.out.2.2.2.2.2
      clear HS
      by_cases hlt : i < nr
      · obtain ⟨n, hn⟩ : ∃ n, R[i]? = some n := ⟨_, List.getElem?_eq_getElem (by rw [HNR.out]; exact hlt)⟩
        obtain ⟨a, a1, eA, ha, y0, y1⟩ := (HR.out _ S1.out.gr).nam' hn
        subst eA
        obtain ⟨r, hr⟩ : ∃ r, findC (pls L) 0 n.pack n.id = r := ⟨_, rfl⟩
        have HNI := Lib.hid hn
        have HFR := Lib.hid hr
        have FD := Lib.hid (show Calls Tryd.prog 31 #[.slice Ad nc cp, .agg #[.string ⟨n.pack.toArray⟩, .int .i64 n.id]] wr (fun e w' => e = .returned (fndV r) ∧ Gr wr w') from by
          have h := find_any Ad cp L n.pack n.id wr (HL.out _ S1.out.gr) (by rw [HNC.out]; omega) HLIM.out
          rw [HNC.out, hr] at h
          exact h)
        clear hn hr
        cases r with
        | none =>
          have FD := Lib.hid (show Calls Tryd.prog 31 #[.slice Ad nc cp, .agg #[.string ⟨n.pack.toArray⟩, .int .i64 n.id]] wr (fun e w' => e = .returned (.tuple #[.agg #[.int .i64 0, .int .i64 0], .bool false]) ∧ Gr wr w') from FD.out)
          go_upto_region 10 with (go_at_call 31; refine FD.out.mono ?_; rintro e W5 ⟨rfl, g5⟩; have S5 := Lib.hid (S1.out.go (g5.trans (gr_al _ (.cells #[.int .i64 0, .int .i64 0] 84)))); clear g5)
          generalize W5.alloc (.cells #[.int .i64 0, .int .i64 0] 84) = W6 at *
          obtain ⟨x0, x1⟩ := ic2 S5.out.p4
          have f4 := frz S5.out.p4
          go_wp2
          have F4 := set2c S5.out.p4 (.slice none 0 0) (.slice none 0 0)
          refine bodyPost_ret (results_pt rfl _ _ ⟨w.heap.size, 0, none⟩ (.slice none 0 0) (.slice none 0 0) (iv 8) rfl rfl (ic2 F4).1 (ic2 F4).2) rfl ?_
          exact rlP_err (linkV_root E0.out (List.mem_of_getElem? HNI.out) HFR.out) (gr_cell (gr_cell S5.out.gr (Nat.le_refl _) _) (Nat.le_refl _) _)
        | some t =>
          obtain ⟨tc, htc⟩ : ∃ q, t.code = q := ⟨_, rfl⟩
          obtain ⟨tb, htb⟩ : ∃ q, t.block = q := ⟨_, rfl⟩
          have FD := Lib.hid (show Calls Tryd.prog 31 #[.slice Ad nc cp, .agg #[.string ⟨n.pack.toArray⟩, .int .i64 n.id]] wr (fun e w' => e = .returned (.tuple #[.agg #[.int .i64 tc, .int .i64 tb], .bool true]) ∧ Gr wr w') from by rw [← htc, ← htb]; exact FD.out)
          have ST := Lib.hid (starts_step RK.out HNI.out HFR.out)
          have SPT := Lib.hid (findC_ok CS.out (pls L) 0 n.pack n.id t (fun j c h => by simpa using h) HFR.out)
          obtain ⟨K5, hK5⟩ : ∃ q, addS K t = q := ⟨_, rfl⟩
          obtain ⟨k5, hk5⟩ : ∃ q, K5.length = q := ⟨_, rfl⟩
          obtain ⟨ix, hix⟩ : ∃ q, K5.idxOf t = q := ⟨_, rfl⟩
          have KN5 := Lib.hid (show Kn (pls L) K5 from by rw [← hK5]; exact KN.out.add SPT.out)
          have HKL := Lib.hid (show k7 ≤ 800 from by have := KN.out.len; have := HSP.out; have := HK.out; omega)
          have NU := Lib.hid (fun V (r7 : RD 2 Sp.cs V A7 K) => show Calls Tryd.prog 32 #[.slice A7 k7 c7, .agg #[.int .i64 tc, .int .i64 tb]] V (fun e w' => ∃ (A5 : Option Addr) (c5 : Nat), e = .returned (.tuple #[.slice A5 k5 c5, .int .i64 ix]) ∧ RD 2 Sp.cs w' A5 K5 ∧ Gr V w') from by
            have h := number_any A7 c7 K t V r7 (by have := HKL.out; have := HK.out; omega)
            rw [HK.out, htc, htb] at h
            refine h.mono ?_
            rintro e w' ⟨A5, c5, h1, h2, h3⟩
            rw [hK5] at h1 h2
            rw [hk5, hix] at h1
            exact ⟨A5, c5, h1, h2, h3⟩)
          have RT := Lib.hid (fun V (r3 : RD 3 Stt.cs V As ss) => show Calls Tryd.prog 33 #[.slice As ns cs, .agg #[.string ⟨n.pack.toArray⟩, .int .i64 n.id, .int .i64 ix]] V (StP ss ⟨n.pack, n.id, ix⟩ V) from by
            have h := rstart_any As cs ss ⟨n.pack, n.id, ix⟩ V r3 (by have h := starts_len (rootN L K) ((R.take i).map Nam.pr) []; have h2 := SS.out; unfold startsOf at h2; rw [← h2] at h; simp at h; have := HNR.out; omega) S1.out.c.1 S1.out.c.2.1 S1.out.c.2.2
            rw [HNS.out] at h
            exact h)
          have NX := Lib.hid (show rootsK (pls L) [] ((R.take (i + 1)).map Nam.pr) = some K5 ∧ insS ss ⟨n.pack, n.id, ix⟩ = startsOf (rootN L K5) ((R.take (i + 1)).map Nam.pr) ∧ K5.length = k5 from by
            have h := ST.out
            rw [hK5, hix, ← SS.out] at h
            exact ⟨h.1, h.2, hk5⟩)
          clear htc htb hK5 hk5 hix
          go_upto_region 10 with (go_at_call 31; refine FD.out.mono ?_; rintro e W5 ⟨rfl, g5⟩; have G5 := Lib.hid (g5.trans (gr_al _ (.cells #[.int .i64 tc, .int .i64 tb] 84))); have T10 := Lib.hid (al_new W5 (.cells #[.int .i64 tc, .int .i64 tb] 84)); clear g5)
          obtain ⟨b10, hb10⟩ : ∃ q, W5.heap.size = q := ⟨_, rfl⟩
          rw [hb10] at T10
          try rw [hb10]
          generalize W5.alloc (.cells #[.int .i64 tc, .int .i64 tb] 84) = W6 at *
          have S6 := Lib.hid (S1.out.go G5.out)
          obtain ⟨t0, t1⟩ := ic2 T10.out
          clear hb10 FD y0 y1
          go_upto_region 13 with (go_at_call 32; refine (NU.out _ S6.out.r).mono ?_; rintro e W7 ⟨A5, c5, rfl, r5, g5⟩; have S7 := Lib.hid (S6.out.num g5 r5); clear r5 g5)
          clear t0 t1
          obtain ⟨a', a1', eA, ha', y0, y1⟩ := (HR.out _ S7.out.gr).nam' HNI.out
          have e3 : a' = a := (Option.some.inj eA).symm
          subst e3
          have e4 : a1' = a1 := ha'.symm.trans ha
          subst e4
          have x1 := (ic2 S7.out.p8).2
          rw [HNS.out] at x1
          go_upto_region 14 with (fail)
          go_still_tail 8, (by kernel_rfl)
          change wpList _ _ _ _ _ (World.drew _)
          have S8 := Lib.hid (S7.out.go (gr_drew W7))
          generalize World.drew _ = W8 at *
          go_wp2_with (go_at_call 33; refine (RT.out _ S8.out.s).mono ?_; rintro e W9 ⟨As9, cs9, rfl, r9, g9, q1, q2, q3⟩; have S9 := Lib.hid (S8.out.start HB8.out g9 r9 ⟨q1, q2, q3⟩); have f8 := frz (gr_h g9 S8.out.p8); have x89 := (ic2 (gr_h g9 S8.out.p8)).2; clear r9 g9 q1 q2 q3)
          exact ⟨⟨i + 1, k5, c5, A5, K5, As9, _, cs9, _, by omega, rfl, by simp, Lib.hid ⟨S9.out, NX.out.2.2, rfl, NX.out.1, NX.out.2.1, KN5.out⟩⟩, by simp [intOf]; omega⟩
      · obtain rfl : nr = i := by omega
        have RKF := Lib.hid (show rootsK (pls L) [] (R.map Nam.pr) = some K from by have h := RK.out; rwa [List.take_of_length_le (Nat.le_of_eq HNR.out)] at h)
        have SSF := Lib.hid (show ss = startsOf (rootN L K) (R.map Nam.pr) from by have h := SS.out; rwa [List.take_of_length_le (Nat.le_of_eq HNR.out)] at h)
        have S2 := Lib.hid (S1.out.two HB8.out)
        have RB0 := Lib.hid (Rb2.nil KN.out)
        obtain ⟨B, hB⟩ : ∃ q, wr.heap.size = q := ⟨_, rfl⟩
        rw [hB] at S2
        obtain ⟨K0, hK0⟩ : ∃ q, K = q := ⟨_, rfl⟩
        rw [hK0] at RKF SSF RB0 S2 HK
        obtain ⟨fu, hfu⟩ : ∃ q, fuelL L = q := ⟨_, rfl⟩
        have HFU := Lib.hid hfu
        clear hB hK0 hfu RK SS S1 KN K
        go_upto_region 16 with (fail)
        go_loopw [7, 14] (fun u7 u14 V => ∃ (i k7 c7 : Nat) (A7 : Option Addr) (K : List Sp) (v0 : Value) (done : List Blk), u7 = .slice A7 k7 c7 ∧ u14 = .int .i64 i ∧ Hid (R2S w b8 B v0 done As cs ss A7 K V ∧ K.length = k7 ∧ Rb2 L K0 i K done)) (fun _ u _ => fu - (intOf u).toNat)
        case atStart => exact ⟨0, k7, c7, A7, K0, _, [], rfl, rfl, Lib.hid ⟨S2.out, HK.out, RB0.out⟩⟩
        case round =>
          clear S2 RB0 HK
          obtain ⟨i, k7, c7, A7, K, v0, done, rfl, rfl, HS⟩ := hrel
          have S2 := Lib.hid HS.out.1
          have HK := Lib.hid HS.out.2.1
          have RB := Lib.hid HS.out.2.2
          have hif : i < fu := by have := RB.out.lt; rw [HFU.out] at this; exact this
          have hik : i ≤ k7 := by have := RB.out.le; rw [HK.out] at this; exact this
          have hk8 : k7 ≤ 800 := by have := RB.out.kn.len; have := HSP.out; have := HK.out; omega
          clear HS
          by_cases hlt : i < k7
          · obtain ⟨s, hs⟩ : ∃ s, K[i]? = some s := ⟨_, List.getElem?_eq_getElem (by rw [HK.out]; exact hlt)⟩
            obtain ⟨a, a1, eA, ha, hab, y0, y1⟩ := S2.out.r.sp (k := i) (by rw [HK.out]; exact hlt)
            have hsi : K[i]'(by rw [HK.out]; exact hlt) = s := by rw [List.getElem?_eq_getElem (by rw [HK.out]; exact hlt)] at hs; exact Option.some.inj hs
            rw [hsi] at y0 y1
            subst eA
            obtain ⟨sc, hsc⟩ : ∃ q : Int, (s.code : Int) = q := ⟨_, rfl⟩
            obtain ⟨sb, hsb⟩ : ∃ q, s.block = q := ⟨_, rfl⟩
            have HKI := Lib.hid hs
            have hne : K ≠ [] := by intro e; rw [e] at hs; cases hs
            have HNE := Lib.hid hne
            have BL := Lib.hid (show Calls Tryd.prog 34 #[.slice Ad nc cp, .agg #[.int .i64 sc, .int .i64 sb], .slice (some a) k7 c7] wr (BlP (pls L) s K (some a) wr) from by
              have h := rblock_any Ad (some a) cp c7 L s K wr (HL.out _ S2.out.gr) (by rw [HNC.out]; exact hncl) HLIM.out HIL.out (RB.out.kn.ok s (List.mem_of_getElem? hs)) S2.out.r (by rw [HK.out]; omega) hne
              rw [HNC.out, HK.out, hsc, hsb] at h
              exact h)
            rw [hsc] at y0
            rw [hsb] at y1
            clear hs hsi hne hsc hsb
            obtain ⟨rr, hrr⟩ : ∃ r, addAll K ((blkAt (pls L) s).ins.filterMap (tgt (pls L) s)) = r := ⟨_, rfl⟩
            have HRR := Lib.hid hrr
            cases rr with
            | none =>
              have BL := Lib.hid (show Calls Tryd.prog 34 #[.slice Ad nc cp, .agg #[.int .i64 sc, .int .i64 sb], .slice (some a) k7 c7] wr (fun e w' => ∃ (n : Int) (q : Bool) (A1 : Option Addr) (m1 c1 : Nat) (A2 : Option Addr) (m2 c2 : Nat), e = .returned (.tuple #[.agg #[.int .i64 n, .bool q, .slice A1 m1 c1], .slice A2 m2 c2, .bool false]) ∧ Gr wr w') from by
                refine BL.out.mono ?_
                rintro e w' ⟨g, h⟩
                rw [hrr] at h
                obtain ⟨n, q, A1, m1, c1, A2, m2, c2, rfl⟩ := h
                exact ⟨n, q, A1, m1, c1, A2, m2, c2, rfl, g⟩)
              clear hrr
              go_upto_region 19 with (go_at_call 34; refine BL.out.mono ?_; rintro e W5 ⟨n, q, A1, m1, c1, A2, m2, c2, rfl, g5⟩; have S5 := Lib.hid (S2.out.go (g5.trans (gr_al _ (.cells #[.int .i64 n, .bool q, .slice A1 m1 c1] 61)))); clear g5)
              generalize W5.alloc (.cells #[.int .i64 n, .bool q, .slice A1 m1 c1] 61) = W6 at *
              obtain ⟨x0, x1⟩ := ic2 S5.out.p4
              have f4 := frz S5.out.p4
              go_wp2
              have F4 := set2c S5.out.p4 (.slice none 0 0) (.slice none 0 0)
              refine bodyPost_ret (results_pt rfl _ _ ⟨w.heap.size, 0, none⟩ (.slice none 0 0) (.slice none 0 0) (iv 21) rfl rfl (ic2 F4).1 (ic2 F4).2) rfl ?_
              exact rlP_err (linkV_ref E0.out RKF.out (RB.out.bad HKI.out HRR.out)) (gr_cell (gr_cell S5.out.gr (Nat.le_refl _) _) (Nat.le_refl _) _)
            | some K5 =>
              obtain ⟨n, hcap⟩ : ∃ q, (blkAt (pls L) s).cap = q := ⟨_, rfl⟩
              obtain ⟨q, hpar⟩ : ∃ q, (blkAt (pls L) s).param = q := ⟨_, rfl⟩
              obtain ⟨M, hM⟩ : ∃ q, (blkAt (pls L) s).ins.map (relab (pls L) K5 s) = q := ⟨_, rfl⟩
              obtain ⟨m1, hm1⟩ : ∃ q, (blkAt (pls L) s).ins.length = q := ⟨_, rfl⟩
              obtain ⟨k5, hk5⟩ : ∃ q, K5.length = q := ⟨_, rfl⟩
              have HM := Lib.hid (show M.length = m1 from by rw [← hM, List.length_map]; exact hm1)
              have BL := Lib.hid (show Calls Tryd.prog 34 #[.slice Ad nc cp, .agg #[.int .i64 sc, .int .i64 sb], .slice (some a) k7 c7] wr (fun e w' => ∃ (A1 : Option Addr) (c1 : Nat) (A2 : Option Addr) (c2 : Nat), e = .returned (.tuple #[.agg #[.int .i64 n, .bool q, .slice A1 m1 c1], .slice A2 k5 c2, .bool true]) ∧ Gr wr w' ∧ RD 4 Ins.cs w' A1 M ∧ RD 2 Sp.cs w' A2 K5 ∧ (∀ a, A1 = some a → wr.heap.size ≤ a.block ∧ a.block < w'.heap.size) ∧ (A2 = some a ∨ ∀ a, A2 = some a → wr.heap.size ≤ a.block)) from by
                refine BL.out.mono ?_
                rintro e w' ⟨g, h⟩
                rw [hrr] at h
                obtain ⟨A1, c1, A2, c2, h1, h2, h3, h4, h5⟩ := h
                rw [hcap, hpar, hm1, hk5] at h1
                rw [hM] at h2
                exact ⟨A1, c1, A2, c2, h1, g, h2, h3, h4, h5⟩)
              have STP := Lib.hid (fun (A1 : Option Addr) (c1 : Nat) => RB.out.step (b := ⟨n, q, A1, c1, M⟩) CS.out HKI.out hrr (by rw [hcap, hpar, hM]; rfl))
              have HK5 := Lib.hid hk5
              clear hrr hcap hpar hM hm1 hk5
              go_upto_region 19 with (go_at_call 34; refine BL.out.mono ?_; rintro e W5 ⟨A1, c1, A2, c2, rfl, g5, r1, r2, l1, l2⟩; have S5 := Lib.hid ((S2.out.num g5 r2 l2 HNE.out).go (gr_al _ (.cells #[.int .i64 n, .bool q, .slice A1 m1 c1] 61))); have R1 := Lib.hid (r1.gr (gr_al _ (.cells #[.int .i64 n, .bool q, .slice A1 m1 c1] 61))); have L1 := Lib.hid (show ∀ p, A1 = some p → B ≤ p.block ∧ p.block < W5.heap.size ∧ some p.block ≠ v0.ownBlock from fun p hp => ⟨Nat.le_trans S2.out.hB.2.2 (l1 p hp).1, (l1 p hp).2, fun e => by have h9 := (S2.out.o.lt _ e.symm).2; have h8 := (l1 p hp).1; omega⟩); have T15 := Lib.hid (al_new W5 (.cells #[.int .i64 n, .bool q, .slice A1 m1 c1] 61)); clear g5 r1 r2 l1 l2)
              have L1 := Lib.hid (show ∀ p, A1 = some p → B ≤ p.block ∧ p.block < (W5.alloc (.cells #[.int .i64 n, .bool q, .slice A1 m1 c1] 61)).heap.size ∧ some p.block ≠ v0.ownBlock from fun p hp => ⟨(L1.out p hp).1, by have := (L1.out p hp).2.1; simp; omega, (L1.out p hp).2.2⟩)
              obtain ⟨b15, hb15⟩ : ∃ q, W5.heap.size = q := ⟨_, rfl⟩
              rw [hb15] at T15
              try rw [hb15]
              generalize W5.alloc (.cells #[.int .i64 n, .bool q, .slice A1 m1 c1] 61) = W6 at *
              clear hb15 BL y0 y1
              have hdl : done.length = i := by have h := congrArg List.length RB.out.e; simp at h; have := HK.out; omega
              obtain ⟨Av, cv, ev, -⟩ := S5.out.o.form elB.hn
              rw [hdl] at ev
              have HDL := Lib.hid hdl
              subst ev
              clear hdl
              obtain ⟨i0, i1, i2, fi⟩ := ic3 T15.out
              obtain ⟨p0, p1⟩ := ic2 S5.out.p8
              have fp := frz S5.out.p8
              have BRD := Lib.hid (fun V : World => show RD 3 Blk.cs (V.alloc (.cells #[.int .i64 n, .bool q, .slice A1 m1 c1] 61)) (some ⟨V.heap.size, 0, none⟩) [(⟨n, q, A1, c1, M⟩ : Blk)] from rd_cells (t := 61) elB.hn (by
                rw [show ([(⟨n, q, A1, c1, M⟩ : Blk)] : List Blk).flatMap Blk.cs = [.int .i64 n, .bool q, .slice A1 m1 c1] from by simp [Blk.cs, HM.out]]
                exact al_new V _))
              go_wp2_with (at_builtin; refine wpList_app elB rfl (.tmp 84) (.tmp 86) rfl B rfl (S5.out.o.gr (gr_al _ _)) (M := [(⟨n, q, A1, c1, M⟩ : Blk)]) (m := 1) (c := 1) rfl rfl (BRD.out _) (by have := HDL.out; simp; omega) (by have := S5.out.hB.2.2; simp; omega) ?_; intro v8 w8 o8 g8 h8; have S8 := Lib.hid ((S5.out.go (gr_al _ _)).put o8 g8 h8 (R1.out.gr (gr_al _ _)) (fun p hp => ⟨(L1.out p hp).1, by have := (L1.out p hp).2.1; simp; omega, (L1.out p hp).2.2⟩)); have q8 := Lib.hid ((g8.block b8 (by have := heap_lt S5.out.p8; simp; omega) (fun e => by have := (S5.out.o.lt _ e.symm).1; have := S5.out.hB.2.1; omega)).trans (gr_h (gr_al W6 _) S5.out.p8)); have fr := frz q8.out; obtain ⟨r0, r1⟩ := ic2 q8.out; obtain ⟨Aw, cw, ew, -⟩ := o8.form elB.hn; rw [List.length_append, HDL.out] at ew; change _ = Value.slice Aw (i + 1) cw at ew; subst ew; clear o8 g8 h8 q8)
              exact ⟨⟨i + 1, k5, c2, A2, K5, _, done ++ [⟨n, q, A1, c1, M⟩], rfl, by simp, Lib.hid ⟨S8.out, HK5.out, STP.out A1 c1⟩⟩, by simp [intOf]; omega⟩
          · obtain rfl : k7 = i := by omega
            obtain ⟨hbf, hpb⟩ := RB.out.fin HK.out
            have HBF := Lib.hid hbf
            have HPB := Lib.hid hpb
            have hdl : done.length = k7 := by have h := congrArg List.length hpb; unfold progB at h; simp at h; have := HK.out; omega
            obtain ⟨Av, cv, ev, -⟩ := S2.out.o.form elB.hn
            have XR0 := S2.out
            rw [ev] at XR0
            have XR := Lib.hid (fun V (g : Gr wr V) => (XR0.go g).rd)
            rw [hdl] at ev
            have HDL := Lib.hid hdl
            subst ev
            clear hbf hpb hdl XR0
            have HSS := Lib.hid (show ss = startsOf (rootN L K) (R.map Nam.pr) from by
              obtain ⟨e, he⟩ := RB.out.p
              rw [SSF.out, he]
              exact starts_fin RKF.out)
            have HIB := Lib.hid (show ∀ b ∈ done, b.ins.length ≤ 90000 from fun b hb => by
              have h1 : b.pb ∈ progB (pls L) K := by rw [← HPB.out]; exact List.mem_map.2 ⟨b, hb, rfl⟩
              unfold progB at h1
              obtain ⟨s, hs, e⟩ := List.mem_map.1 h1
              obtain ⟨c, sb, b', h2, -, h3, h4⟩ := spot_at (RB.out.kn.ok s hs)
              have h5 : b.ins = (blkAt (pls L) s).ins.map (relab (pls L) K s) := (congrArg PB.ins e).symm
              rw [h5, List.length_map, h4]
              exact HIL.out c (List.mem_of_getElem? h2) b' (List.mem_of_getElem? h3))
            obtain ⟨ep, hep⟩ : ∃ q, errP ⟨Av, cv, done, As, cs, ss⟩ = q := ⟨_, rfl⟩
            have HEP := Lib.hid (show errQ (progB (pls L) K) (startsOf (rootN L K) (R.map Nam.pr)) = ep from by
              have h := errP_pl ⟨Av, cv, done, As, cs, ss⟩
              simp only at h
              rw [← HPB.out, ← HSS.out, ← h]
              exact hep)
            have LV := Lib.hid (linkV_end E0.out RKF.out HBF.out HEP.out)
            have CK := Lib.hid (fun V (g : Gr wr V) => show Calls Tryd.prog 35 #[.agg #[.slice Av k7 cv, .slice As ns cs]] V (fun e w' => e = .returned (.int .i64 ep) ∧ Gr V w') from by
              have h := rcheck_any ⟨Av, cv, done, As, cs, ss⟩ V (XR.out V g) (by show done.length ≤ _; rw [HDL.out]; omega) (by
                show ss.length ≤ _
                have h := starts_len (rootN L K) (R.map Nam.pr) []
                have h2 := HSS.out
                unfold startsOf at h2
                rw [← h2] at h
                simp at h
                have := HNR.out
                omega) (fun b hb => by have := HIB.out b hb; omega) (fun s hs => by
                have h2 : s ∈ startsOf (rootN L K) (R.map Nam.pr) := by rw [← HSS.out]; exact hs
                obtain ⟨n, hn, rfl⟩ := (startsOf_mem _ _ _).1 h2
                have h3 := (HOK.out _ (pr_mem hn)).1
                have e : maxLen = 9223372036854775807 := rfl
                simp only [e] at h3
                exact h3)
              rw [hep] at h
              unfold Prg.v at h
              simp only [HDL.out, HNS.out] at h
              exact h.mono fun e w' ⟨h1, h2⟩ => ⟨h1, gr_of h2⟩)
            clear hep
            obtain ⟨p0, p1⟩ := ic2 S2.out.p8
            rw [HNS.out] at p1
            go_upto_region 24 with (go_at_call 35; refine (CK.out _ (gr_refl _)).mono ?_; rintro e W5 ⟨rfl, g5⟩; have G5 := Lib.hid g5; clear g5)
            have S5 := Lib.hid (S2.out.go G5.out)
            have XR5 := Lib.hid (XR.out _ G5.out)
            obtain ⟨x0, x1⟩ := ic2 S5.out.p4
            have f4 := frz S5.out.p4
            obtain ⟨p0, p1⟩ := ic2 S5.out.p8
            rw [HNS.out] at p1
            clear G5 XR S2 CK
            by_cases hz : ep = 0
            · subst hz
              go_wp2
              have F4 := set2c S5.out.p4 (.slice Av k7 cv) (.slice As ns cs)
              refine bodyPost_ret (results_pt rfl _ _ ⟨w.heap.size, 0, none⟩ (.slice Av k7 cv) (.slice As ns cs) (iv 0) rfl rfl (ic2 F4).1 (ic2 F4).2) rfl ?_
              have LV2 := LV.out
              rw [if_neg (by simp)] at LV2
              have h4 := S5.out.p4
              have X1 := XR5.out.put isSl (isSl_cells h4) sl_p (grown_set (w := W5) w.heap.size 0 (.slice Av k7 cv))
              have h4' : (W5.setCell ⟨w.heap.size, 0, none⟩ (.slice Av k7 cv)).heap[w.heap.size]? = some (.cells #[.slice Av k7 cv, .slice none 0 0] 29 (0, 0)) := by simp [World.setCell, Array.getElem?_modify, h4]
              have X2 := X1.put isSl (isSl_cells h4') sl_p (grown_set _ 1 (.slice As ns cs))
              refine ⟨⟨Av, cv, done, As, cs, ss⟩, ?_, X2, ?_, ?_, gr_cell (gr_cell S5.out.gr (Nat.le_refl _) _) (Nat.le_refl _) _⟩
              · rw [LV2]
                unfold Prg.v
                simp only [HDL.out, HNS.out]
              · rw [LV2]; exact HPB.out
              · rw [LV2]; exact HSS.out
            · have e1 : (ep != 0) = true := by simpa using hz
              go_wp2
              have F4 := set2c S5.out.p4 (.slice none 0 0) (.slice none 0 0)
              refine bodyPost_ret (results_pt rfl _ _ ⟨w.heap.size, 0, none⟩ (.slice none 0 0) (.slice none 0 0) (iv ep) rfl rfl (ic2 F4).1 (ic2 F4).2) rfl ?_
              exact rlP_err (by rw [LV.out, if_pos hz]) (gr_cell (gr_cell S5.out.gr (Nat.le_refl _) _) (Nat.le_refl _) _)
  · have e1 : (e0 != 0) = true := by simpa using h0
    go_wp2
    have F4 := set2c P41.out (.slice none 0 0) (.slice none 0 0)
    refine bodyPost_ret (results_pt rfl _ _ ⟨w.heap.size, 0, none⟩ (.slice none 0 0) (.slice none 0 0) (iv e0) rfl rfl (ic2 F4).1 (ic2 F4).2) rfl ?_
    exact rlP_err (by rw [linkV_codes (by rw [E0.out]; exact h0), E0.out]) (gr_cell (gr_cell G1.out (Nat.le_refl _) _) (Nat.le_refl _) _)
end Go.Proofs.YtgboboljgcfggaaDoor
