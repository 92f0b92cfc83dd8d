/- The law MachineFunctions. -/
import Derived.Test.YtdfllhmkgphcmaaDoorLtQ
import Derived.StillTailTactics
import Derived.Deep.CutRange
namespace Go.Proofs.YtdfllhmkgphcmaaDoor
open Go.RowKit

abbrev NC (n : Int) : List Value := [iv n]
theorem RD.num {w : World} {A : Option Addr} {L : List Int} (h : RD 1 NC w A L) {k : Nat} (hk : k < L.length) : ∃ a, A = Option.some a ∧ a.block < w.heap.size ∧ w.cell? (a.add k) = Option.some (Value.int .i64 L[k]) := by
  obtain ⟨a, e, hb, hc⟩ := h.at hk
  exact ⟨a, e, hb, by simpa using hc 0 _ rfl⟩
set_option maxRecDepth 100000 in
set_option maxHeartbeats 4000000 in
theorem law_fun_far (A : Option Addr) (c n : Nat) (a x : Int) (w : World) (h : 10 < (n : Int) ∨ (¬ 10 < (n : Int) ∧ a < -999999999) ∨ (¬ 10 < (n : Int) ∧ ¬ a < -999999999 ∧ 999999999 < a)) : Calls Tryd.prog 8 #[.slice A n c, iv a, .int .u8 x] w fun e w' => e = .returned (.bool true) ∧ w.grownBy w' none := by
  have AW := Lib.hid awake_any
  rcases h with h1 | ⟨h1, h2⟩ | ⟨h1, h2, h3⟩
  all_goals
    go_enter Tryd.func8, Tryd.ntmps8
    go_wp2_with (first | (go_at_call 14; refine (AW.out _).mono ?_; rintro e w5 ⟨rfl, g5⟩; have G5 := Lib.hid g5; clear g5))
    go_ret
    exact ⟨rfl, G5.out⟩
theorem take_all {L : List Int} {z : Int} {k : Nat} (hk : k < L.length) (h : ∀ y ∈ L.take k, -999999999 ≤ y ∧ y ≤ 999999999) (hz : L[k] = z) (h1 : ¬ z < -999999999) (h2 : ¬ 999999999 < z) : ∀ y ∈ L.take (k + 1), -999999999 ≤ y ∧ y ≤ 999999999 := by
  rw [List.take_succ_eq_append_getElem hk]
  intro y hy
  rcases List.mem_append.1 hy with h3 | h3
  · exact h y h3
  · simp at h3; subst h3; omega
set_option maxRecDepth 100000 in
set_option maxHeartbeats 8000000 in
theorem law_fun_near (A : Option Addr) (c : Nat) (L : List Int) (a x : Int) (w : World) (hr : RD 1 NC w A L) (hl : L.length ≤ 10) (h1 : ¬ a < -999999999) (h2 : ¬ 999999999 < a) (hx : 0 ≤ x ∧ x ≤ 255) : Calls Tryd.prog 8 #[.slice A L.length c, iv a, .int .u8 x] w fun e w' => e = .returned (.bool true) ∧ w.grownBy w' none := by
  have AW := Lib.hid awake_any
  have HR := Lib.hid (fun V (h : w.grownBy V none) => hr.below (below_of h))
  have HX := Lib.hid hx
  have HL := Lib.hid hl
  have HA := Lib.hid (show -999999999 ≤ a ∧ a ≤ 999999999 by omega)
  have l1 : ¬ 10 < (L.length : Int) := by omega
  clear hr hl hx
  go_enter Tryd.func8, Tryd.ntmps8
  go_wp2
  go_loopw [7, 9, 31] (fun v _ i V => ∃ k : Nat, k ≤ L.length ∧ i = .int .i64 k ∧ Hid (CR w (fnB (L.take k)) v V ∧ ∀ y ∈ L.take k, -999999999 ≤ y ∧ y ≤ 999999999)) (fun _ _ i _ => L.length - (intOf i).toNat)
  case atStart => exact ⟨0, Nat.zero_le _, rfl, Lib.hid ⟨CR.start w, by simp⟩⟩
  case round =>
    obtain ⟨k, hk, rfl, HG⟩ := hrel
    by_cases hlt : k < L.length
    · obtain ⟨ad, rfl, had, c0⟩ := (HR.out _ HG.out.1.gr).num hlt
      have LT := Lib.hid (List.length_take_le k L)
      obtain ⟨z, hz⟩ : ∃ z, L[k] = z := ⟨_, rfl⟩
      rw [hz] at c0
      have HZ := Lib.hid hz
      have HT := Lib.hid (show L.take (k + 1) = L.take k ++ [z] by rw [← hz]; exact List.take_succ_eq_append_getElem hlt)
      clear hz
      by_cases z1 : z < -999999999
      · go_wp2_with (first | (go_at_call 14; refine (AW.out _).mono ?_; rintro e w5 ⟨rfl, g5⟩; have G5 := Lib.hid (HG.out.1.gr.trans g5); clear g5))
        go_ret
        exact ⟨rfl, G5.out⟩
      · by_cases z2 : 999999999 < z
        · go_wp2_with (first | (go_at_call 14; refine (AW.out _).mono ?_; rintro e w5 ⟨rfl, g5⟩; have G5 := Lib.hid (HG.out.1.gr.trans g5); clear g5))
          go_ret
          exact ⟨rfl, G5.out⟩
        · go_wp2_with (at_builtin; refine wpList_appC rfl (.tmp 42) (.tmp 46) rfl rfl HG.out.1 rfl [⟨1, z, 0, []⟩, ⟨14, 0, 0, []⟩] rfl rfl rfl (by rw [fnB_len]; have := LT.out; have := HL.out; simp; omega) ?_; intro v1 w1 o1; have O1 := Lib.hid o1; clear o1)
          exact ⟨⟨k + 1, by omega, by simp, Lib.hid ⟨by rw [HT.out, fnB_snoc]; exact O1.out, take_all hlt HG.out.2 HZ.out z1 z2⟩⟩, by simp [intOf]; omega⟩
    · obtain rfl : k = L.length := by omega
      have O0 := HG.out.1
      have R0 := HG.out.2
      rw [List.take_length] at O0 R0
      obtain ⟨n, hn⟩ : ∃ n, L.length = n := ⟨_, rfl⟩
      have hk0 : 0 ≤ x.tmod ((n : Int) + 1) := Int.tmod_nonneg _ HX.out.1
      have hk1 : x.tmod ((n : Int) + 1) < (n : Int) + 1 := Int.tmod_lt_of_pos x (by omega)
      obtain ⟨K, hK⟩ : ∃ K : Nat, x.tmod ((n : Int) + 1) = K := ⟨(x.tmod ((n : Int) + 1)).toNat, by omega⟩
      have ww1 : IntKind.i64.wrap x = x := IntWalk.i64_in _ ⟨by have := HX.out; omega, by have := HX.out; omega⟩
      have ww2 : IntKind.i64.wrap ((n : Int) + 1) = (n : Int) + 1 := IntWalk.i64_in _ ⟨by omega, by have := HL.out; omega⟩
      have nz : ((n : Int) + 1 == 0) = false := by simp; omega
      have OO := Lib.hid O0
      have RR := Lib.hid R0
      have KK := Lib.hid (show K ≤ n by omega)
      have LB := Lib.hid (fnB_len L)
      clear O0 R0 hk0 hk1 HG hlt hk
      rw [hn] at HL LB l1 ⊢
      have NN := Lib.hid hn
      clear hn
      by_cases hn0 : n = 0
      · skip
        have np : ¬ (0 < (n : Int)) := by omega
        have N0 := Lib.hid hn0
        clear hn0
        go_upto_region 16 with (first | (at_builtin; refine wpList_appC rfl (.tmp 49) (.tmp 51) rfl rfl OO.out rfl [⟨5, 1, 0, []⟩] rfl rfl rfl (by rw [LB.out]; have := HL.out; simp; omega) ?_; intro v1 w1 o1; have O1 := Lib.hid o1; clear o1) | (at_builtin; refine wpList_appC rfl (.tmp 62) (.tmp 67) rfl rfl O1.out rfl [⟨1, a, 0, []⟩, ⟨6, 0, 0, []⟩, ⟨7, 0, 0, []⟩] rfl rfl rfl (by simp only [List.length_append, LB.out]; have := HL.out; simp; omega) ?_; intro v3 w3 o3; have O3 := Lib.hid o3; clear o3))
        obtain ⟨CL, hCL⟩ : ∃ CL, CL = fnL L a := ⟨_, rfl⟩
        have o3 : CR w CL v3 w3 := by rw [hCL]; have h := O3.out; simpa [fnL, fnD, fnE, NN.out, N0.out] using h
        obtain ⟨g, cc, rfl, hg1, hg2⟩ := o3.some (by rw [hCL]; simp [fnL])
        have PL := Lib.hid (plainL_own (some ⟨g, 0, none⟩) cc CL w3 o3.rd)
        have GR3 := Lib.hid (show w.grownBy w3 none ∧ g < w3.heap.size from ⟨o3.gr, hg1⟩)
        have EC := Lib.hid hCL
        clear OO O3 o3 hg1 hg2 hCL
        generalize CL.length = m at *
        go_upto_region 18 with (first | (go_at_call 21; refine PL.out.mono ?_; rintro e w4 ⟨B1, B2, rfl, hp⟩; have HP := Lib.hid hp; have bl := (hp.b.lt B1 rfl).2; have rb := fun o1 o2 o3 => ((hp.b.alloc o1).alloc o2).alloc o3; have RB := Lib.hid rb; clear hp rb; rw [show (plP (some ⟨g, 0, none⟩) cc CL B1 B2).v = .agg #[.slice (some ⟨B1, 0, none⟩) 1 1, .slice (some ⟨B2, 0, none⟩) 1 1] from rfl]) | (at_builtin; refine wpList_appB _ rfl (.tmp 78) (.tmp 86) rfl w3.heap.size rfl (RB.out _ _ _) (M := [⟨n, true, some ⟨w4.heap.size + 1, 0, none⟩, 2, fnK K⟩]) rfl rfl (rd_cells Blk.cs_len' (al_at _ _ (by simp))) (by simp) (by simp) (by have := HP.out.gr.size; simp; omega) ?_; intro v5 w5 o5 g5 b5; obtain ⟨⟨q0, q1, qf⟩, A', c', e5, RP, d0, d1, GR⟩ := fn_mem (k := K) GR3.out.1 GR3.out.2 HP.out o5 rfl rfl g5 b5; have W5 := Lib.hid RP; have GR5 := Lib.hid GR; clear o5 g5 b5 RP GR))
        subst e5
        have RS := Lib.hid (fun want hw => fn_result (some ⟨g, 0, none⟩) (some ⟨w4.heap.size + 1, 0, none⟩) A' cc 2 c' B2 L a K want _ (by rw [NN.out]; exact HL.out) (by rw [NN.out]; exact KK.out) RR.out HA.out hw (by have := W5.out; rw [EC.out, ← NN.out] at this; exact this))
        generalize w5.setCell ⟨w4.heap.size, 0, none⟩ (.slice A' 2 c') = V6 at *
        rw [show (fnP A' c' ⟨0, false, some ⟨g, 0, none⟩, cc, fnL L a⟩ ⟨L.length, true, some ⟨w4.heap.size + 1, 0, none⟩, 2, fnK K⟩ B2).v = .agg #[.slice A' 2 c', .slice (some ⟨B2, 0, none⟩) 1 1] from rfl] at RS
        generalize w4.heap.size = b4 at *
        clear q0 q1 qf HP W5 RB GR3 EC bl O1
        by_cases hkn : K < n
        · exact absurd hkn (by have := N0.out; omega)
        · obtain rfl : K = n := by have := KK.out; omega
          have R1 := Lib.hid (RS.out a (by rw [← NN.out, List.getElem?_append_right (Nat.le_refl _), Nat.sub_self]; rfl))
          clear RS
          go_wp2_with (first | (go_at_call 20; refine R1.out.mono ?_; rintro e w6 ⟨g6, M, y, rfl, k1, k2⟩; have G6 := Lib.hid (fun o o' => (GR5.out.trans g6).trans ((World.grownBy_alloc w6 o none).trans (World.grownBy_alloc _ o' none))); unfold AM.v AV.v; rw [k1, k2]; clear R1 g6 k1 k2) | (go_at_call 14; refine (AW.out _).mono ?_; rintro e w7 ⟨rfl, g7⟩; have G7 := Lib.hid ((G6.out _ _).trans g7); clear g7))
          go_ret
          exact ⟨rfl, G7.out⟩
      · skip
        have np : 0 < (n : Int) := by omega
        have N0 := Lib.hid hn0
        clear hn0
        go_upto_region 16 with (first | (at_builtin; refine wpList_appC rfl (.tmp 49) (.tmp 51) rfl rfl OO.out rfl [⟨5, 1, 0, []⟩] rfl rfl rfl (by rw [LB.out]; have := HL.out; simp; omega) ?_; intro v1 w1 o1; have O1 := Lib.hid o1; clear o1) | (at_builtin; refine wpList_appC rfl (.tmp 56) (.tmp 60) rfl rfl O1.out rfl [⟨15, n, 0, []⟩] rfl rfl rfl (by simp only [List.length_append, LB.out]; have := HL.out; simp; omega) ?_; intro v2 w2 o2; have O2 := Lib.hid o2; clear o2) | (at_builtin; refine wpList_appC rfl (.tmp 62) (.tmp 67) rfl rfl O2.out rfl [⟨1, a, 0, []⟩, ⟨6, 0, 0, []⟩, ⟨7, 0, 0, []⟩] rfl rfl rfl (by simp only [List.length_append, LB.out]; have := HL.out; simp; omega) ?_; intro v3 w3 o3; have O3 := Lib.hid o3; clear o3))
        obtain ⟨CL, hCL⟩ : ∃ CL, CL = fnL L a := ⟨_, rfl⟩
        have o3 : CR w CL v3 w3 := by rw [hCL]; have h := O3.out; simpa [fnL, fnD, fnE, NN.out, N0.out] using h
        obtain ⟨g, cc, rfl, hg1, hg2⟩ := o3.some (by rw [hCL]; simp [fnL])
        have PL := Lib.hid (plainL_own (some ⟨g, 0, none⟩) cc CL w3 o3.rd)
        have GR3 := Lib.hid (show w.grownBy w3 none ∧ g < w3.heap.size from ⟨o3.gr, hg1⟩)
        have EC := Lib.hid hCL
        clear OO O3 o3 hg1 hg2 hCL
        generalize CL.length = m at *
        go_upto_region 18 with (first | (go_at_call 21; refine PL.out.mono ?_; rintro e w4 ⟨B1, B2, rfl, hp⟩; have HP := Lib.hid hp; have bl := (hp.b.lt B1 rfl).2; have rb := fun o1 o2 o3 => ((hp.b.alloc o1).alloc o2).alloc o3; have RB := Lib.hid rb; clear hp rb; rw [show (plP (some ⟨g, 0, none⟩) cc CL B1 B2).v = .agg #[.slice (some ⟨B1, 0, none⟩) 1 1, .slice (some ⟨B2, 0, none⟩) 1 1] from rfl]) | (at_builtin; refine wpList_appB _ rfl (.tmp 78) (.tmp 86) rfl w3.heap.size rfl (RB.out _ _ _) (M := [⟨n, true, some ⟨w4.heap.size + 1, 0, none⟩, 2, fnK K⟩]) rfl rfl (rd_cells Blk.cs_len' (al_at _ _ (by simp))) (by simp) (by simp) (by have := HP.out.gr.size; simp; omega) ?_; intro v5 w5 o5 g5 b5; obtain ⟨⟨q0, q1, qf⟩, A', c', e5, RP, d0, d1, GR⟩ := fn_mem (k := K) GR3.out.1 GR3.out.2 HP.out o5 rfl rfl g5 b5; have W5 := Lib.hid RP; have GR5 := Lib.hid GR; clear o5 g5 b5 RP GR))
        subst e5
        have RS := Lib.hid (fun want hw => fn_result (some ⟨g, 0, none⟩) (some ⟨w4.heap.size + 1, 0, none⟩) A' cc 2 c' B2 L a K want _ (by rw [NN.out]; exact HL.out) (by rw [NN.out]; exact KK.out) RR.out HA.out hw (by have := W5.out; rw [EC.out, ← NN.out] at this; exact this))
        generalize w5.setCell ⟨w4.heap.size, 0, none⟩ (.slice A' 2 c') = V6 at *
        rw [show (fnP A' c' ⟨0, false, some ⟨g, 0, none⟩, cc, fnL L a⟩ ⟨L.length, true, some ⟨w4.heap.size + 1, 0, none⟩, 2, fnK K⟩ B2).v = .agg #[.slice A' 2 c', .slice (some ⟨B2, 0, none⟩) 1 1] from rfl] at RS
        generalize w4.heap.size = b4 at *
        clear q0 q1 qf HP W5 RB GR3 EC bl O1
        by_cases hkn : K < n
        · obtain ⟨ad, rfl, had, c0⟩ := (HR.out _ GR5.out).num (k := K) (by rw [NN.out]; exact hkn)
          obtain ⟨want, hwt⟩ : ∃ z, L[K]'(by rw [NN.out]; exact hkn) = z := ⟨_, rfl⟩
          rw [hwt] at c0
          have R1 := Lib.hid (RS.out want (by rw [List.getElem?_append_left (by rw [NN.out]; exact hkn), List.getElem?_eq_getElem (by rw [NN.out]; exact hkn), hwt]))
          have C0 := Lib.hid (show ad.block < V6.heap.size ∧ _ from ⟨had, c0⟩)
          have kn : (K : Int) < (n : Int) := by omega
          clear RS hwt had c0
          go_wp2_with (first | (go_at_call 20; refine R1.out.mono ?_; rintro e w6 ⟨g6, M, y, rfl, k1, k2⟩; have G6 := Lib.hid (fun o o' => (GR5.out.trans g6).trans ((World.grownBy_alloc w6 o none).trans (World.grownBy_alloc _ o' none))); have dk := fun o o' => cell_al (cell_al (g6.cell C0.out.2 (by simp)) (by rw [add_block]; exact Nat.lt_of_lt_of_le C0.out.1 g6.size) o) (by rw [add_block]; have := C0.out.1; have := g6.size; simp; omega) o'; unfold AM.v AV.v; rw [k1, k2]; clear R1 g6 k1 k2 C0) | (go_at_call 14; refine (AW.out _).mono ?_; rintro e w7 ⟨rfl, g7⟩; have G7 := Lib.hid ((G6.out _ _).trans g7); clear g7))
          go_ret
          exact ⟨rfl, G7.out⟩
        · obtain rfl : K = n := by have := KK.out; omega
          have R1 := Lib.hid (RS.out a (by rw [← NN.out, List.getElem?_append_right (Nat.le_refl _), Nat.sub_self]; rfl))
          clear RS
          go_wp2_with (first | (go_at_call 20; refine R1.out.mono ?_; rintro e w6 ⟨g6, M, y, rfl, k1, k2⟩; have G6 := Lib.hid (fun o o' => (GR5.out.trans g6).trans ((World.grownBy_alloc w6 o none).trans (World.grownBy_alloc _ o' none))); unfold AM.v AV.v; rw [k1, k2]; clear R1 g6 k1 k2) | (go_at_call 14; refine (AW.out _).mono ?_; rintro e w7 ⟨rfl, g7⟩; have G7 := Lib.hid ((G6.out _ _).trans g7); clear g7))
          go_ret
          exact ⟨rfl, G7.out⟩
theorem law_functions_any (A : Option Addr) (c : Nat) (L : List Int) (a x : Int) (w : World) (hr : RD 1 NC w A L) (hx : 0 ≤ x ∧ x ≤ 255) : Calls Tryd.prog 8 #[.slice A L.length c, iv a, .int .u8 x] w fun e w' => e = .returned (.bool true) ∧ w.grownBy w' none := by
  by_cases h : 10 < (L.length : Int) ∨ (¬ 10 < (L.length : Int) ∧ a < -999999999) ∨ (¬ 10 < (L.length : Int) ∧ ¬ a < -999999999 ∧ 999999999 < a)
  · exact law_fun_far A c L.length a x w h
  · exact law_fun_near A c L a x w hr (by omega) (by omega) (by omega) hx
end Go.Proofs.YtdfllhmkgphcmaaDoor
