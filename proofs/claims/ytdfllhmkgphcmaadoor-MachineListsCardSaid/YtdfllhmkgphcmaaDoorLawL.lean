/- The law MachineLists. -/
import Derived.Test.YtdfllhmkgphcmaaDoorLtK
import Derived.Test.YtdfllhmkgphcmaaDoorLawF
import Derived.StillTailTactics
import Derived.Deep.CutRange
namespace Go.Proofs.YtdfllhmkgphcmaaDoor
open Go.RowKit

set_option maxRecDepth 100000 in
set_option maxHeartbeats 4000000 in
theorem law_lists_far (A : Option Addr) (c n : Nat) (w : World) (h : 20 < (n : Int)) : Calls Tryd.prog 7 #[.slice A n c] w fun e w' => e = .returned (.bool true) ∧ w.grownBy w' none := by
  have AW := Lib.hid awake_any
  go_enter Tryd.func7, Tryd.ntmps7
  go_wp2_with (first | (go_at_call 14; refine (AW.out _).mono ?_; rintro e w5 ⟨rfl, g5⟩; have G5 := Lib.hid g5; clear g5))
  go_ret
  exact ⟨rfl, G5.out⟩
theorem wrap_nat (k : Nat) (h : k ≤ 1000000) : IntKind.i64.wrap (k : Int) = k := IntWalk.i64_in _ ⟨by omega, by omega⟩
set_option maxRecDepth 100000 in
set_option maxHeartbeats 16000000 in
theorem law_lists_near (A : Option Addr) (c : Nat) (L : List Int) (w : World) (hr : RD 1 NC w A L) (hl : L.length ≤ 20) : Calls Tryd.prog 7 #[.slice A L.length c] w fun e w' => e = .returned (.bool true) ∧ w.grownBy w' none := by
  have AW := Lib.hid awake_any
  have HR := Lib.hid (fun V (h : w.grownBy V none) => hr.below (below_of h))
  have HL := Lib.hid hl
  have l1 : ¬ 20 < (L.length : Int) := by omega
  clear hr hl
  go_enter Tryd.func7, Tryd.ntmps7
  go_wp2
  go_loopw [3, 5, 27] (fun v _ i V => ∃ k : Nat, k ≤ L.length ∧ i = .int .i64 k ∧ Hid (CR w (lsI (L.take k)) v V ∧ ∀ y ∈ L.take k, -999999999 ≤ y ∧ y ≤ 999999999)) (fun _ _ i _ => L.length - (intOf i).toNat)
  case atStart => exact ⟨0, Nat.zero_le _, rfl, Lib.hid ⟨CR.start w, by simp⟩⟩
  case round =>
    obtain ⟨k, hk, rfl, HG⟩ := hrel
    by_cases hlt : k < L.length
    · obtain ⟨ad, rfl, had, c0⟩ := (HR.out _ HG.out.1.gr).num hlt
      have LT := Lib.hid (List.length_take_le k L)
      obtain ⟨z, hz⟩ : ∃ z, L[k] = z := ⟨_, rfl⟩
      rw [hz] at c0
      have HZ := Lib.hid hz
      have HT := Lib.hid (show L.take (k + 1) = L.take k ++ [z] by rw [← hz]; exact List.take_succ_eq_append_getElem hlt)
      clear hz
      by_cases z1 : z < -999999999
      · go_wp2_with (first | (go_at_call 14; refine (AW.out _).mono ?_; rintro e w5 ⟨rfl, g5⟩; have G5 := Lib.hid (HG.out.1.gr.trans g5); clear g5))
        go_ret
        exact ⟨rfl, G5.out⟩
      · by_cases z2 : 999999999 < z
        · go_wp2_with (first | (go_at_call 14; refine (AW.out _).mono ?_; rintro e w5 ⟨rfl, g5⟩; have G5 := Lib.hid (HG.out.1.gr.trans g5); clear g5))
          go_ret
          exact ⟨rfl, G5.out⟩
        · go_wp2_with (at_builtin; refine wpList_appC rfl (.tmp 38) (.tmp 41) rfl rfl HG.out.1 rfl [⟨1, z, 0, []⟩] rfl rfl rfl (by rw [lsI_len]; have := LT.out; have := HL.out; simp; omega) ?_; intro v1 w1 o1; have O1 := Lib.hid o1; clear o1)
          exact ⟨⟨k + 1, by omega, by simp, Lib.hid ⟨by rw [HT.out, lsI_snoc]; exact O1.out, take_all hlt HG.out.2 HZ.out z1 z2⟩⟩, by simp [intOf]; omega⟩
    · obtain rfl : k = L.length := by omega
      have O0 := HG.out.1
      have R0 := HG.out.2
      rw [List.take_length] at O0 R0
      obtain ⟨n, hn⟩ : ∃ n, L.length = n := ⟨_, rfl⟩
      have OO := Lib.hid O0
      have RR := Lib.hid R0
      clear O0 R0 HG hlt hk
      have LI := Lib.hid (lsI_len L)
      rw [hn] at HL LI l1 ⊢
      have NN := Lib.hid hn
      clear hn
      go_wp2_with (at_builtin; refine wpList_appC rfl (.tmp 44) (.tmp 46) rfl rfl OO.out rfl [⟨11, 0, 0, []⟩] rfl rfl rfl (by rw [LI.out]; have := HL.out; simp; omega) ?_; intro v1 w1 o1; have O1 := Lib.hid o1; clear o1)
      go_loopw [3, 50] (fun v i V => ∃ k : Nat, k ≤ n ∧ i = .int .i64 k ∧ Hid (CR w (lsI L ++ [⟨11, 0, 0, []⟩] ++ lsC k) v V)) (fun _ i _ => n - (intOf i).toNat)
      case atStart => exact ⟨0, Nat.zero_le _, rfl, Lib.hid (by simpa [lsC] using O1.out)⟩
      case round =>
        clear OO O1
        obtain ⟨k, hk, rfl, HG⟩ := hrel
        by_cases hlt : k < n
        · go_wp2_with (at_builtin; refine wpList_appC rfl (.tmp 52) (.tmp 54) rfl rfl HG.out rfl [⟨12, 0, 0, []⟩] rfl rfl rfl (by have := HL.out; simp [lsC_len, LI.out]; omega) ?_; intro v2 w2 o2; have O2 := Lib.hid o2; clear o2)
          exact ⟨⟨k + 1, by omega, by simp, Lib.hid (by rw [lsC_succ, ← List.append_assoc]; exact O2.out)⟩, by simp [intOf]; omega⟩
        · obtain rfl : k = n := by omega
          have o2 : CR w (lsA L) u3 wr := by unfold lsA; rw [NN.out]; exact HG.out
          obtain ⟨g, cc, rfl, hg1, hg2⟩ := o2.some (by simp [lsA])
          have LA := Lib.hid (lsA_len L)
          obtain ⟨m, hm⟩ : ∃ m, (lsA L).length = m := ⟨_, rfl⟩
          rw [hm] at o2 LA ⊢
          have O2 := Lib.hid o2
          have MM := Lib.hid hm
          have G1 := Lib.hid hg1
          have MN := Lib.hid (show m = 2 * k + 1 by have := LA.out; rw [NN.out] at this; exact this)
          clear o2 hm hg1 hg2 HG hlt hk LA
          go_upto_region 17 with (first | (at_builtin; refine wpList_appN rfl (.tmp 58) (.tmp 59) rfl rfl O2.out MM.out rfl rfl (by have := HL.out; have := MN.out; omega) ?_; intro v3 w3 o3 o3' b3; have O3 := Lib.hid (show _ ∧ _ ∧ _ from ⟨o3, o3', b3⟩); clear o3 o3' b3) | (at_builtin; refine wpList_appD rfl (.tmp 60) (.tmp 62) rfl rfl O3.out.1 rfl O3.out.2.1 (by intro e; have := O3.out.2.2 g e.symm; have := G1.out; omega) [⟨7, 0, 0, []⟩] rfl rfl rfl (by rw [MM.out]; have := HL.out; have := MN.out; simp; omega) ?_; intro v4 w4 o4 o4'; obtain ⟨CL, hCL⟩ : ∃ CL, CL = lsA L ++ [⟨7, 0, 0, []⟩] := ⟨_, rfl⟩; rw [← hCL] at o4; obtain ⟨g4, c4, rfl, -, -⟩ := o4.some (by rw [hCL]; simp); have PL := Lib.hid (plainL_own (some ⟨g4, 0, none⟩) c4 CL w4 o4.rd); have O4 := Lib.hid o4'; have EC := Lib.hid hCL; clear o4 o4' hCL O3; generalize CL.length = m4 at *) | (go_at_call 21; refine PL.out.mono ?_; rintro e w5 ⟨B1, B2, rfl, hp⟩; have O5 := Lib.hid (O4.out.grow hp.gr); have RS := Lib.hid (ls_result1 (some ⟨g4, 0, none⟩) c4 L B1 B2 w5 (by rw [NN.out]; exact HL.out) RR.out (by rw [← EC.out]; exact hp.p)); rw [← EC.out] at RS; clear hp PL O4; rw [show (plP (some ⟨g4, 0, none⟩) c4 CL B1 B2).v = .agg #[.slice (some ⟨B1, 0, none⟩) 1 1, .slice (some ⟨B2, 0, none⟩) 1 1] from rfl] at RS ⊢) | (go_at_call 20; refine RS.out.mono ?_; rintro e w6 ⟨g6, M, y, rfl, k1, k2, k3⟩; have O6 := Lib.hid (O5.out.grow g6); have K3 := Lib.hid k3; have k2' := k2.trans NN.out; unfold AM.v AV.v; rw [k1, k2']; clear RS g6 k1 k2 k3 k2' O5))
          generalize hV : World.alloc (World.alloc w6 _) _ = V
          have gV : w6.grownBy V none := by subst hV; exact (World.grownBy_alloc w6 _ none).trans (World.grownBy_alloc _ _ none)
          have kV : V.heap[w6.heap.size + 1]? = some (.cells #[iv 3, iv y.int, .slice y.A k y.c, iv y.block, eS, eS, nilS, nilS] 54 (0, 0)) := by subst hV; exact al_at _ _ (by simp)
          generalize w6.heap.size + 1 = b7 at *
          clear hV
          have c0 : V.cell? ⟨b7, 0, none⟩ = some (iv 3) := by rw [Lib.cell_of_heap kV]; rfl
          have c2 : V.cell? ⟨b7, 2, none⟩ = some (.slice y.A k y.c) := by rw [Lib.cell_of_heap kV]; rfl
          have O7 := Lib.hid (O6.out.grow gV)
          have Y3 := Lib.hid (fun U (gU : V.grownBy U none) (j : Nat) (h : j < L.length) => K3.out U (gV.trans gU) j h)
          have Y2 := Lib.hid (fun U (gU : V.grownBy U none) => (show U.cell? ⟨b7, 2, none⟩ = some (.slice y.A k y.c) from gU.cell c2 (by simp)))
          clear gV K3 O6 kV
          go_wp2
          clear c0 c2
          go_loopw [9, 10, 86] (fun _ _ i U => ∃ j : Nat, j ≤ k ∧ i = .int .i64 j ∧ Hid (V.grownBy U none)) (fun _ _ i _ => k - (intOf i).toNat)
          case atStart => exact ⟨0, Nat.zero_le _, rfl, Lib.hid (World.grownBy.refl V _)⟩
          case round =>
            obtain ⟨j, hj, rfl, HU⟩ := hrel
            by_cases hlt : j < k
            · have hjL : j < L.length := by rw [NN.out]; exact hlt
              obtain ⟨ad, rfl, had, d0⟩ := (HR.out _ (O7.out.gr.trans HU.out)).num hjL
              obtain ⟨a, a1, e1, e2, e3, e4, e5⟩ := Y3.out _ HU.out j hjL
              have d2 := Y2.out _ HU.out
              rw [e1] at d2
              generalize L[j] = z at d0 e5
              clear e1 had e3
              go_wp2
              exact ⟨⟨j + 1, by omega, by simp, Lib.hid HU.out⟩, by simp [intOf]; omega⟩
            · obtain rfl : k = j := by omega
              have P0 := Lib.hid (show CR w (lsA L ++ lsP 0 0 0) (.slice (some ⟨g, 0, none⟩) m cc) wr by have := O7.out.grow HU.out; simpa [lsP] using this)
              clear HU hlt hj Y2 Y3 O7
              go_wp2
              go_loopw [3, 11, 111] (fun v _ i U => ∃ j : Nat, j ≤ k ∧ i = .int .i64 j ∧ Hid (CR w (lsA L ++ lsP 0 0 j) v U)) (fun _ _ i _ => k - (intOf i).toNat)
              case atStart => exact ⟨0, Nat.zero_le _, rfl, P0⟩
              case round =>
                clear P0
                obtain ⟨j, hj, rfl, HU⟩ := hrel
                by_cases hlt : j < k
                · have ww1 : IntKind.i64.wrap (2 * (j : Int)) = 2 * (j : Int) := IntWalk.i64_in _ ⟨by omega, by have := HL.out; omega⟩
                  have ww2 : IntKind.i64.wrap (2 * (j : Int) + 1) = 2 * (j : Int) + 1 := IntWalk.i64_in _ ⟨by omega, by have := HL.out; omega⟩
                  go_wp2_with (at_builtin; refine wpList_appC rfl (.tmp 114) (.tmp 120) rfl rfl HU.out rfl [⟨13, 0, 0, []⟩, ⟨3, 2 * (j : Int) + 1, 0, []⟩] rfl rfl rfl (by have := HL.out; have := MN.out; simp [MM.out, lsP_len]; omega) ?_; intro v9 w9 o9; have O9 := Lib.hid o9; clear o9)
                  exact ⟨⟨j + 1, by omega, by simp, Lib.hid (by rw [lsP_snoc, ← List.append_assoc]; exact O9.out)⟩, by simp [intOf]; omega⟩
                · obtain rfl : k = j := by omega
                  obtain ⟨CD, hCD⟩ : ∃ CD, CD = lsA L ++ lsP 0 0 k := ⟨_, rfl⟩
                  have q0 := HU.out
                  rw [← hCD] at q0
                  obtain ⟨g2, cc2, rfl, -, -⟩ := q0.some (by rw [hCD]; simp [lsA])
                  obtain ⟨m2, hm2⟩ : ∃ m2, CD.length = m2 := ⟨_, rfl⟩
                  rw [hm2] at q0 ⊢
                  have M2 := Lib.hid hm2
                  have M2N := Lib.hid (show m2 = 4 * k + 1 by rw [← hm2, hCD, List.length_append, MM.out, lsP_len, MN.out]; omega)
                  have ww : IntKind.i64.wrap ((m2 : Int) + 1) = (m2 : Int) + 1 := IntWalk.i64_in _ ⟨by omega, by have := M2N.out; have := HL.out; omega⟩
                  have Q0 := Lib.hid q0
                  have DC := Lib.hid hCD
                  have l2 : (m2 : Int) ≤ 81 := by have := M2N.out; have := HL.out; omega
                  clear q0 hm2 hCD HU hlt hj
                  go_wp2
                  go_loopw [13, 128] (fun _ i U => ∃ j : Nat, j ≤ m2 ∧ i = .int .i64 j ∧ Hid (CR w (lsM ((m2 : Int) + 1) j CD) (.slice (some ⟨g2, 0, none⟩) m2 cc2) U)) (fun _ i _ => m2 - (intOf i).toNat)
                  case atStart => exact ⟨0, Nat.zero_le _, rfl, Lib.hid (by rw [lsM_zero]; exact Q0.out)⟩
                  case round =>
                    clear Q0
                    obtain ⟨j, hj, rfl, HU⟩ := hrel
                    by_cases hlt : j < m2
                    · obtain ⟨c0, c1, cf⟩ := HU.out.at M2.out hlt
                      have ha : (⟨g2, 0, none⟩ : Addr).add (j * 4) = ⟨g2, j * 4, none⟩ := by
                        by_cases z : j * 4 = 0
                        · rw [z]; rfl
                        · rw [fld_add _ _ z]; simp
                      obtain ⟨op, hop⟩ : ∃ op, (CD[j]'(by rw [M2.out]; exact hlt)).op = op := ⟨_, rfl⟩
                      rw [hop] at c0
                      generalize (CD[j]'(by rw [M2.out]; exact hlt)).a = a9 at c1
                      by_cases h13 : op = 13
                      · subst h13
                        have S1 := Lib.hid (HU.out.setA M2.out hlt hop)
                        clear hop
                        go_wp2
                        exact ⟨⟨j + 1, by omega, by simp, S1⟩, by simp [intOf]; omega⟩
                      · have S1 := Lib.hid (show CR w (lsM ((m2 : Int) + 1) (j + 1) CD) (.slice (some ⟨g2, 0, none⟩) m2 cc2) wr by rw [lsM_no (by rw [M2.out]; exact hlt) (by rw [hop]; exact h13)]; exact HU.out)
                        clear hop
                        go_wp2
                        exact ⟨⟨j + 1, by omega, by simp, S1⟩, by simp [intOf]; omega⟩
                    · obtain rfl : m2 = j := by omega
                      have e5 : lsE L = (m2 : Int) + 1 := by unfold lsE; rw [NN.out]; have := M2N.out; omega
                      have T0 := Lib.hid (show CR w (lsA L ++ lsP ((m2 : Int) + 1) 0 k) (.slice (some ⟨g2, 0, none⟩) m2 cc2) wr by
                        have h1 := HU.out
                        have h2 := lsM_all ((m2 : Int) + 1) CD
                        rw [M2.out, DC.out, List.map_append, lsG_A, lsG_P] at h2
                        rw [DC.out] at h1
                        rw [← h2]
                        exact h1)
                      have LT := Lib.hid (show (lsA L ++ lsP ((m2 : Int) + 1) 0 k).length = 4 * k + 1 by rw [List.length_append, MM.out, lsP_len, MN.out]; omega)
                      have E5 := Lib.hid e5
                      clear e5 HU hlt hj M2 DC M2N
                      go_wp2_with (at_builtin; refine wpList_appC rfl (.tmp 143) (.tmp 146) rfl rfl T0.out rfl [⟨13, (m2 : Int) + 1, 0, []⟩] rfl rfl rfl (by rw [LT.out]; have := HL.out; simp; omega) ?_; intro v10 w10 o10; have O10 := Lib.hid o10; clear o10)
                      go_loopw [3, 14, 150] (fun v _ i U => ∃ j : Nat, j ≤ k ∧ i = .int .i64 j ∧ Hid (CR w (lsA L ++ lsP ((m2 : Int) + 1) 0 k ++ [⟨13, (m2 : Int) + 1, 0, []⟩] ++ lsQ j) v U)) (fun _ _ i _ => k - (intOf i).toNat)
                      case atStart => exact ⟨0, Nat.zero_le _, rfl, Lib.hid (by have := O10.out; simpa [lsQ] using this)⟩
                      case round =>
                        clear T0 O10
                        obtain ⟨j, hj, rfl, HU⟩ := hrel
                        by_cases hlt : j < k
                        · have ww1 : IntKind.i64.wrap (2 * (j : Int)) = 2 * (j : Int) := IntWalk.i64_in _ ⟨by omega, by have := HL.out; omega⟩
                          go_wp2_with (at_builtin; refine wpList_appC rfl (.tmp 153) (.tmp 157) rfl rfl HU.out rfl [⟨3, 2 * (j : Int), 0, []⟩] rfl rfl rfl (by have := HL.out; rw [List.length_append, List.length_append, LT.out, lsQ_len]; simp; omega) ?_; intro v11 w11 o11; have O11 := Lib.hid o11; clear o11)
                          exact ⟨⟨j + 1, by omega, by simp, Lib.hid (by rw [lsQ_succ, ← List.append_assoc]; exact O11.out)⟩, by simp [intOf]; omega⟩
                        · obtain rfl : k = j := by omega
                          go_upto_region 45 with (first | (at_builtin; refine wpList_appC rfl (.tmp 160) (.tmp 163) rfl rfl HU.out rfl [⟨11, 0, 0, []⟩, ⟨7, 0, 0, []⟩] rfl rfl rfl (by have := HL.out; rw [List.length_append, List.length_append, LT.out, lsQ_len]; simp; omega) ?_; intro v12 w12 o12; obtain ⟨CF, hCF⟩ : ∃ CF, CF = lsL L := ⟨_, rfl⟩; replace o12 : CR w CF v12 w12 := (by rw [hCF]; unfold lsL; rw [E5.out, NN.out]; exact o12); obtain ⟨g6, c6, rfl, -, -⟩ := o12.some (by rw [hCF]; simp [lsL]); have PL := Lib.hid (plainL_any (some ⟨g6, 0, none⟩) c6 CF w12 o12.rd); have G12 := Lib.hid o12.gr; have EF := Lib.hid hCF; clear o12 hCF HU; generalize CF.length = m6 at *) | (go_at_call 21; refine PL.out.mono ?_; rintro e w13 ⟨g13, B3, B4, rfl, hp⟩; have G13 := Lib.hid (G12.out.trans g13); have RS := Lib.hid (ls_result2 (some ⟨g6, 0, none⟩) c6 L B3 B4 w13 (by rw [NN.out]; exact HL.out) RR.out (by rw [← EF.out]; exact hp)); rw [← EF.out] at RS; clear hp PL g13; rw [show (plP (some ⟨g6, 0, none⟩) c6 CF B3 B4).v = .agg #[.slice (some ⟨B3, 0, none⟩) 1 1, .slice (some ⟨B4, 0, none⟩) 1 1] from rfl] at RS ⊢) | (go_at_call 20; refine RS.out.mono ?_; rintro e w14 ⟨g14, M9, y9, rfl, k2, k3⟩; have G14 := Lib.hid (G13.out.trans g14); have K3 := Lib.hid k3; have k2' := k2.trans (congrArg (· + 1) NN.out); unfold AM.v AV.v; rw [k2']; clear RS g14 k2 k3 k2' G12 G13))
                          generalize hV : World.alloc (World.alloc w14 _) _ = V9
                          have gV : w14.grownBy V9 none := by subst hV; exact (World.grownBy_alloc w14 _ none).trans (World.grownBy_alloc _ _ none)
                          have c2 : V9.cell? ⟨w14.heap.size, 2, none⟩ = some (.slice M9.sA (k + 1) M9.sc) := by subst hV; simp
                          generalize w14.heap.size = b9 at *
                          clear hV
                          have G15 := Lib.hid (G14.out.trans gV)
                          have Y3 := Lib.hid (fun U (gU : V9.grownBy U none) (j : Nat) (h : j < L.length) => K3.out U (gV.trans gU) j h)
                          have Y2 := Lib.hid (fun U (gU : V9.grownBy U none) => (show U.cell? ⟨b9, 2, none⟩ = some (.slice M9.sA (k + 1) M9.sc) from gU.cell c2 (by simp)))
                          have ww3 : IntKind.i64.wrap ((k : Int) + 1) = (k : Int) + 1 := IntWalk.i64_in _ ⟨by omega, by omega⟩
                          clear gV K3 G14
                          go_wp2
                          clear c2
                          go_loopw [18, 19, 185] (fun _ _ i U => ∃ j : Nat, j ≤ k ∧ i = .int .i64 j ∧ Hid (V9.grownBy U none)) (fun _ _ i _ => k - (intOf i).toNat)
                          case atStart => exact ⟨0, Nat.zero_le _, rfl, Lib.hid (World.grownBy.refl V9 _)⟩
                          case round =>
                            obtain ⟨j, hj, rfl, HU⟩ := hrel
                            by_cases hlt : j < k
                            · have hjL : j < L.length := by rw [NN.out]; exact hlt
                              obtain ⟨ad, rfl, had, d0⟩ := (HR.out _ (G15.out.trans HU.out)).num hjL
                              obtain ⟨a, a1, e1, e2, e3, e4, e5⟩ := Y3.out _ HU.out j hjL
                              have d2 := Y2.out _ HU.out
                              rw [e1] at d2
                              generalize L[j] = z at d0 e5
                              clear e1 had e3
                              go_wp2
                              exact ⟨⟨j + 1, by omega, by simp, Lib.hid HU.out⟩, by simp [intOf]; omega⟩
                            · obtain rfl : k = j := by omega
                              go_wp2_with (first | (go_at_call 14; refine (AW.out _).mono ?_; rintro e w20 ⟨rfl, g20⟩; have G20 := Lib.hid ((G15.out.trans HU.out).trans g20); clear g20))
                              go_ret
                              exact ⟨rfl, G20.out⟩
theorem law_lists_any (A : Option Addr) (c : Nat) (L : List Int) (w : World) (hr : RD 1 NC w A L) : Calls Tryd.prog 7 #[.slice A L.length c] w fun e w' => e = .returned (.bool true) ∧ w.grownBy w' none := by
  by_cases h : 20 < (L.length : Int)
  · exact law_lists_far A c L.length w h
  · exact law_lists_near A c L w hr (by omega)
end Go.Proofs.YtdfllhmkgphcmaaDoor
