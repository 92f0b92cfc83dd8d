/- Walks: the reference's apply (63). -/
import Derived.Test.YtjlmhfdigoogfaaApD
namespace Go.Proofs.Ytjlmhfdigoogfaa
open Go.RowKit

set_option maxRecDepth 100000 in
set_option maxHeartbeats 8000000 in
theorem rapply63 (A0 : Option Addr) (c0 : Nat) (L0 : List As) (w0 : World) (hL : ARd w0 A0 L0) (hl : L0.length ≤ 1000000) (x : Ty) : ∀ w, Gr w0 w → x.Rd w → cke x.er = 0 → x.er.size ≤ 1000 → Calls Try.prog 63 #[.slice A0 L0.length c0, x.v] w (FR w0 (x.er.rep (apf (L0.map As.er))) w) := by
  have HL0 := Lib.hid (fun V (g : Gr w0 V) => hL.gr g)
  obtain ⟨N, hN⟩ : ∃ N, L0.length = N := ⟨_, rfl⟩
  have HN := Lib.hid hN
  have F86 := Lib.hid (fun n V (g : Gr w0 V) => find86 A0 c0 L0 n V (hL.gr g) (by omega))
  simp only [hN] at F86
  rw [hN] at hl
  rw [hN]
  clear hL hN
  induction x using Ty.ind with
  | h x ih =>
    intro w hg hx hcx hz
    have IH := Lib.hid ih
    have HX := Lib.hid (fun V (g : Gr w V) => TRd.gr hx g)
    have BX := Lib.hid (B1.of x.kind x.var (.slice x.A x.sub.length x.c) w)
    have ER := Lib.hid (rep_eq (apf (L0.map As.er)) x.er)
    rw [er_kind, er_var, er_sub] at ER
    have HG := Lib.hid hg
    have HC := Lib.hid hcx
    have HV := Lib.hid (show x.kind = 5 → x.er = vr x.var from fun h => by have := good_var hcx (by rw [er_kind]; exact h); rw [er_var] at this; exact this)
    obtain ⟨K, hK⟩ : ∃ K, x.kind = K := ⟨_, rfl⟩
    rw [hK] at BX ER HV
    have HKK := Lib.hid hK
    unfold Ty.v
    rw [hK]
    obtain ⟨b0, b1, b2⟩ := BX.out.c
    clear hg hx ih hcx
    have I1 := Lib.hid (show Gr w ((w.alloc (.cells #[iv K, iv x.var, .slice x.A x.sub.length x.c] 24)).alloc (.cells #[iv 0, iv 0, .slice none 0 0] 24)) from (gr_al _ _).trans (gr_al _ _))
    have I2 := Lib.hid (show ((w.alloc (.cells #[iv K, iv x.var, .slice x.A x.sub.length x.c] 24)).alloc (.cells #[iv 0, iv 0, .slice none 0 0] 24)).heap[w.heap.size + 1]? = some (.cells #[iv 0, iv 0, .slice none 0 0] 24 (0, 0)) from al_at _ _ (by simp))
    have I3 := Lib.hid (show ((w.alloc (.cells #[iv K, iv x.var, .slice x.A x.sub.length x.c] 24)).alloc (.cells #[iv 0, iv 0, .slice none 0 0] 24)).heap[w.heap.size]? = some (.cells #[iv K, iv x.var, .slice x.A x.sub.length x.c] 24 (0, 0)) from gr_h (gr_al _ _) (al_new _ _))
    by_cases h5 : K = 5
    · have HV5 := Lib.hid (HV.out h5)
      have HSN := Lib.hid (show x.sub = [] from by
        have h := congrArg PT.sub HV5.out
        rw [er_sub] at h
        have h2 := congrArg List.length h
        simp [vr, PT.sub] at h2
        exact h2)
      subst h5
      clear hK
      rw [if_pos rfl] at ER
      obtain ⟨m, hm⟩ : ∃ m, fii x.var (L0.map As.er) = m := ⟨_, rfl⟩
      have C86 := Lib.hid (fun V (g : Gr w V) => F86.out x.var V (HG.out.trans g))
      simp only [hm] at C86
      have HM := Lib.hid hm
      clear hm
      go_enter Try.func63, Try.ntmps63
      go_upto_region 2 with (fail)
      generalize hW1 : World.alloc (World.alloc w _) _ = W1 at *
      clear hW1
      obtain ⟨⟨d0, d1, d2⟩, -⟩ := cell3 I3.out
      obtain ⟨⟨e0, e1, e2⟩, fz⟩ := cell3 I2.out
      have z0 := fz 0
      have z1 := fz 1
      have z2 := fz 2
      clear fz b0 b1 b2
      by_cases hm0 : 0 ≤ m
      · have HFX := Lib.hid (show ∃ (i : Nat) (y : As), m = i ∧ L0[i]? = some y ∧ apf (L0.map As.er) x.var = y.ty.er from by
          have h := HM.out
          unfold fii at h
          cases hf : fidx x.var (L0.map As.er) with
          | none => rw [hf] at h; simp only at h; omega
          | some i =>
            rw [hf] at h
            obtain ⟨p, hp, hpv⟩ := fidx_at hf
            have hp0 := hp
            rw [List.getElem?_map] at hp
            obtain ⟨y, hy, rfl⟩ := Option.map_eq_some_iff.1 hp
            refine ⟨i, y, h.symm, hy, ?_⟩
            unfold apf
            rw [hf]
            simp only [hp0]
            rfl)
        obtain ⟨i, y, rfl, hy, hap⟩ := HFX.out
        obtain ⟨hik, a, a1, rfl, ha, hab, q0, q1, q2, q3, hyr⟩ := asr_at (HL0.out _ (HG.out.trans I1.out)) hy
        have hik2 : i < N := by rw [← HN.out]; exact hik
        have HY := Lib.hid hy
        have HAP := Lib.hid hap
        clear hy hap hyr HFX hm0 hik
        go_wp2_with (first | (go_at_call 86; (with_reducible refine (C86.out _ I1.out).mono ?_); rintro e w5 ⟨rfl, hw⟩; subst hw))
        have HR := (HL0.out _ (gr_refl _)).ty y (List.mem_of_getElem? HY.out)
        have GG := Lib.hid (fun (V : World) (g : Gr w V) => HG.out.trans g)
        refine bodyPost_ret (results_cell_row (P := Try.prog) rfl _ _ (w.heap.size + 1) _ _ _ _ rfl (set3 (a' := iv y.ty.kind) (b' := iv y.ty.var) (c' := .slice y.ty.A y.ty.sub.length y.ty.c) I2.out) rfl rfl rfl) rfl ⟨⟨_, rfl, y.ty, rfl, ?_, (TRd.tin HR).mono fun k hk => .inl hk, ?_⟩, ?_⟩
        · exact TRd.gr HR (GG.out _ (gr_cell (gr_cell (gr_cell I1.out (by omega) _) (by omega) _) (by omega) _))
        · rw [ER.out]; exact HAP.out.symm
        · exact gr_cell (gr_cell (gr_cell I1.out (by omega) _) (by omega) _) (by omega) _
      · have HAP := Lib.hid (show apf (L0.map As.er) x.var = vr x.var from by
          have h := HM.out
          unfold fii at h
          cases hf : fidx x.var (L0.map As.er) with
          | none => unfold apf; rw [hf]
          | some i => rw [hf] at h; simp only at h; omega)
        go_wp2_with (first | (go_at_call 86; (with_reducible refine (C86.out _ I1.out).mono ?_); rintro e w5 ⟨rfl, hw⟩; subst hw))
        refine bodyPost_ret (results_cell_row (P := Try.prog) rfl _ _ (w.heap.size + 1) _ _ _ _ rfl (set3 (a' := iv 5) (b' := iv x.var) (c' := .slice x.A x.sub.length x.c) I2.out) rfl rfl rfl) rfl ⟨⟨_, rfl, x, ?_, ?_, ?_, ?_⟩, ?_⟩
        · unfold Ty.v; rw [HKK.out]
        · exact HX.out _ (gr_cell (gr_cell (gr_cell I1.out (by omega) _) (by omega) _) (by omega) _)
        · rw [HSN.out]; exact TIn.nil
        · rw [ER.out, HAP.out]; exact HV5.out
        · exact gr_cell (gr_cell (gr_cell I1.out (by omega) _) (by omega) _) (by omega) _
    · have hb5 : (K == 5) = false := by simpa using h5
      rw [if_neg h5] at ER
      have hlen : x.sub.length ≤ 1000 := by
        have := size_eq x.er
        have h2 := psz_len x.er.sub
        rw [er_sub] at this h2
        simp at h2
        omega
      have I00 : RI (apf (L0.map As.er)) w0 x K w 0 (.slice none 0 0) (((w.alloc (.cells #[iv K, iv x.var, .slice x.A x.sub.length x.c] 24)).alloc (.cells #[iv 0, iv 0, .slice none 0 0] 24)).alloc (.cells #[iv K, iv 0, .slice none 0 0] 24)) := by
        refine ⟨((gr_al _ _).trans (gr_al _ _)).trans (gr_al _ _), ?_, ?_, ?_, [], OR.nil, by simp, by simp⟩
        · exact ((Below.heap_alloc _ _ _ (by simp; omega)).trans (Below.heap_alloc _ _ _ (by simp))).trans (al_new w _)
        · exact (Below.heap_alloc _ _ _ (by simp)).trans (al_at _ _ (by simp))
        · exact al_at _ _ (by simp)
      have I0 := Lib.hid I00
      clear I00 I1 I2 I3
      go_enter Try.func63, Try.ntmps63
      go_wp2
      go_loopw [7] (fun i V => ∃ k A c, k ≤ x.sub.length ∧ i = .int .i64 (k : Nat) ∧ Hid (RI (apf (L0.map As.er)) w0 x K w k (.slice A k c) V)) (fun i _ => x.sub.length - (intOf i).toNat)
      case atStart => exact ⟨0, none, 0, Nat.zero_le _, rfl, I0⟩
      case round =>
        clear I0 BX b0 b1 b2
        obtain ⟨k, A, c, hk, rfl, HR⟩ := hrel
        obtain ⟨⟨b0, b1, b2⟩, -⟩ := cell3 HR.out.t2
        obtain ⟨⟨c0, c1, c2⟩, -⟩ := cell3 HR.out.t4
        obtain ⟨⟨d0, d1, d2⟩, fz⟩ := cell3 HR.out.t5
        have z2 := fz 2
        clear fz
        by_cases hlt : k < x.sub.length
        · obtain ⟨a, a1, hA, ha, hab, e0, e1, e2, hsub⟩ := (HX.out _ HR.out.gr).at hlt
          have IM := List.getElem_mem hlt
          have PS := Lib.hid (show (ers x.sub)[k]? = some x.sub[k].er from ers_get hlt)
          have CL := Lib.hid (fun V (g : Gr wr V) => IH.out _ IM V ((HG.out.trans HR.out.gr).trans g) (hsub.gr g) (by exact (cke_ok HC.out).2 _ (by rw [er_sub, ers_map]; exact List.mem_map.2 ⟨_, IM, rfl⟩)) (by have h1 := psz_mem (x := x.sub[k].er) (l := ers x.sub) (by rw [ers_map]; exact List.mem_map.2 ⟨_, IM, rfl⟩); have h2 := size_eq x.er; rw [er_sub] at h2; omega))
          generalize x.sub[k] = y at *
          obtain ⟨A1, hA1⟩ : ∃ A1, x.A = A1 := ⟨_, rfl⟩
          have HA1 := Lib.hid hA1
          rw [hA1] at hA b2
          subst hA
          unfold Ty.v at CL
          clear hsub IM hA1
          go_upto_region 10 with (fail)
          obtain ⟨L, ho, hE, hL⟩ := HR.out.ex
          have hk1 : L.length = k := by have := congrArg List.length hE; simp at this; omega
          have HO := Lib.hid (fun V (g : Gr wr V) => ho.gr g)
          have HL := Lib.hid hL
          have HE := Lib.hid hE
          have HK := Lib.hid hk1
          have J3 := Lib.hid HR.out.t5
          have J2 := Lib.hid (show wr.heap[w.heap.size]? = some (.cells #[iv K, iv x.var, .slice (some a) x.sub.length x.c] 24 (0, 0)) from by rw [← HA1.out]; exact HR.out.t2)
          clear ho hL hE hk1
          have HB := Lib.hid (show ∀ V : World, Gr wr V → ∀ j, (Value.slice A k c).ownBlock = some j → w.heap.size + 3 ≤ j from fun V g j hj => ((HO.out V g).lt j hj).1)
          have HS1 := Lib.hid (show ∀ q : Ty, L.length + [q].length ≤ 1000000 from fun q => by have := HK.out; simp; omega)
          go_region_law (first | (go_simp; go_at_call 63; refine (CL.out _ (gr_drew _)).mono ?_; rintro e w6 ⟨⟨r, rfl, q, rfl, tr⟩, g6⟩; have g7 : Gr wr w6 := (gr_drew _).trans g6; unfold Ty.v; obtain ⟨⟨k0, k1, k2⟩, fz6⟩ := cell3 (gr_h g7 J3.out); have z6 := fz6 2; obtain ⟨⟨k3, k4, k5⟩, -⟩ := cell3 (gr_h (g7.trans (gr_al w6 (.cells #[iv q.kind, iv q.var, .slice q.A q.sub.length q.c] 24))) J3.out); have T6 := Lib.hid tr; have G6 := Lib.hid g7; have S6 := Lib.hid (show w.heap.size + 3 ≤ w6.heap.size from by have h3 := g7.size; have h4 := heap_lt HR.out.t5; omega); have S7 := Lib.hid (show ∀ o : Obj, w.heap.size + 3 ≤ (w6.alloc o).heap.size from fun o => by have := S6.out; simp; omega); clear tr g6 g7 fz6) | (refine step_appT rfl (.tmp 34) (.tmp 42) rfl (w.heap.size + 3) (v := .slice A k c) (L := L) (by simp [Act.eval]) (HO.out _ (G6.out.trans (gr_al _ _))) (A := some ⟨w6.heap.size, 0, none⟩) (M := [q]) (m := 1) (c := 1) rfl (by simp [Act.eval]) (rd_cells (t := 24) Ty.cs_len (al_new _ _)) (by simp) (HS1.out q) (S7.out _) ?_; intro v7 w7 o7 g7 b7; obtain ⟨A7, c7, rfl, -⟩ := o7.form Ty.cs_len; have l7 : (L ++ [q]).length = k + 1 := (by simp [HK.out]); rw [l7] at o7 b7 ⊢; have O7 := Lib.hid o7; have G7 := Lib.hid g7; have B7 := Lib.hid b7; have K7 := Lib.hid (show w7.heap[w.heap.size + 2]? = some (.cells #[iv K, iv 0, .slice A k c] 24 (0, 0)) from (g7.block _ (Nat.lt_of_lt_of_le (by omega) (S7.out _)) (fun e => by have := HB.out _ G6.out _ e.symm; omega)).trans (gr_h (gr_al _ _) (gr_h G6.out J3.out))); obtain ⟨⟨m0, m1, m2⟩, fz7⟩ := cell3 K7.out; have z7 := fz7 2; clear fz7 o7 g7 b7 l7))
          all_goals go_wp2
          all_goals exact ⟨⟨k + 1, A7, c7, by omega, by simp, Lib.hid (ri_step HR.out HG.out.size HE.out HL.out (HO.out _ (gr_refl _)) (gr_drew wr).size G6.out T6.out.1 T6.out.2.1 T6.out.2.2 PS.out O7.out G7.out B7.out)⟩, by simp [intOf]; omega⟩
        · obtain rfl : x.sub.length = k := by omega
          obtain ⟨L, ho, hE, hL⟩ := HR.out.ex
          have hk1 : L.length = x.sub.length := by have := congrArg List.length hE; simp at this; omega
          have FN := Lib.hid (fun (V : World) (hV : V.heap.size = wr.heap.size) (st : ∀ j, j ≠ w.heap.size + 1 → V.heap[j]? = wr.heap[j]?) => ri_end HR.out HG.out.size ho hE hL hk1 V hV st)
          have H4 := Lib.hid (set3 (a' := iv K) (b' := iv 0) (c' := .slice A x.sub.length c) HR.out.t4)
          clear hE hL ho hk1
          obtain ⟨-, fz4⟩ := cell3 HR.out.t4
          have y0 := fz4 0
          have y1 := fz4 1
          have y2 := fz4 2
          clear fz4
          go_wp2
          refine bodyPost_ret (results_cell_row (P := Try.prog) rfl _ _ (w.heap.size + 1) _ _ _ _ rfl H4.out rfl rfl rfl) rfl ⟨⟨_, rfl, ?_⟩, ?_⟩
          · rw [ER.out]
            exact FN.out _ (by simp [World.setCell]) fun j hj => ((Below.heap_setCell _ _ _ _ hj).trans (Below.heap_setCell _ _ _ _ hj)).trans (Below.heap_setCell _ _ _ _ hj)
          · exact gr_cell (gr_cell (gr_cell HR.out.gr (by omega) _) (by omega) _) (by omega) _
end Go.Proofs.Ytjlmhfdigoogfaa
