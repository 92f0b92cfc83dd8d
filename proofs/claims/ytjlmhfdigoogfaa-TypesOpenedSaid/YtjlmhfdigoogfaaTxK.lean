/- Walks: the reference's Parse (38). -/
import Derived.Test.YtjlmhfdigoogfaaTxJ
namespace Go.Proofs.Ytjlmhfdigoogfaa
open Go.RowKit

/-- The box of the result. -/
structure RQ (w V : World) : Prop where
  gr : Gr w V
  hz : V.heap[w.heap.size]? = some (.cells #[iv 0, iv 0, iv 0, .slice none 0 0] 47 (0, 0))
theorem RQ.grow {w V V' : World} (h : RQ w V) (g : Gr V V') : RQ w V' := ⟨h.gr.trans g, gr_h g h.hz⟩
theorem RQ.first (w : World) : RQ w (w.alloc (.cells #[iv 0, iv 0, iv 0, .slice none 0 0] 47)) := ⟨gr_al _ _, al_new _ _⟩
theorem seen0_any (x : Ty) (w : World) (hx : x.Rd w) (hz : x.er.size ≤ 1000) : Calls Try.prog 57 #[.slice none 0 0, x.v] w fun e w' => (∃ A c, e = .returned (.slice A (sn [] x.er).length c)) ∧ Gr w w' := by
  refine (seen_any x w w.heap.size w (.slice none 0 0) [] hx (gr_refl _) (Nat.le_refl _) (Nat.le_refl _) OR.nil (by simpa using hz)).mono fun e w' h => ?_
  obtain ⟨v, rfl, h⟩ := h
  obtain ⟨A, c, rfl, -⟩ := h.o.form NC_len
  exact ⟨⟨A, c, rfl⟩, h.gr (gr_refl _) OR.nil (Nat.le_refl _)⟩
attribute [local irreducible] Calls in
set_option maxRecDepth 100000 in
set_option maxHeartbeats 4000000 in
theorem rparse_no (s : T) (w : World) (hl : s.length ≤ 1000) (hn : rdd 0 (rd (s.length + 1) s) = none) : Calls Try.prog 38 #[tv s] w (SEP w ((0, .mk 0 0 []), 3)) := by
  have CH := Lib.hid (fun V => (rread_any (s.length + 1) s 0 V (Nat.lt_succ_self _) (by omega) (by omega) (by omega)).mono fun e w' k => (rrp_both k).2 hn)
  clear hn
  have HB := Lib.hid (RQ.first w)
  obtain ⟨z0, z1, z2, z3⟩ := cell4 HB.out.hz
  have zf := frz HB.out.hz
  go_enter Try.func38, Try.ntmps38
  go_wp2_with ((first | (go_at_call 77; refine (CH.out _).mono ?_; rintro e w1 ⟨rfl, g⟩; have HN := Lib.hid ((HB.out.grow g).grow (gr_al w1 (.cells #[iv 0, iv 0, .slice none 0 0] 24))); clear g; clear HB z0 z1 z2 z3 zf; have HB := HN; clear HN; obtain ⟨z0, z1, z2, z3⟩ := cell4 HB.out.hz; have zf := frz HB.out.hz)))
  refine bodyPost_ret (results_row_tmp (P := Try.prog) rfl _ _ (w.heap.size) _ _ _ _ rfl rfl (set4 HB.out.hz _ _ _ _) rfl rfl rfl) rfl ?_
  exact sep_bad 3 HB.out.gr (Nat.le_refl _)
attribute [local irreducible] Calls in
set_option maxRecDepth 100000 in
set_option maxHeartbeats 4000000 in
theorem rparse_more (s : T) (w : World) (hl : s.length ≤ 1000) (t : PT) (r : T) (hn : rdd 0 (rd (s.length + 1) s) = some (t, r)) (hr : r ≠ []) : Calls Try.prog 38 #[tv s] w (SEP w ((0, .mk 0 0 []), 3)) := by
  have CH := Lib.hid (fun V => (rread_any (s.length + 1) s 0 V (Nat.lt_succ_self _) (by omega) (by omega) (by omega)).mono fun e w' k => (rrp_both k).1 t r hn)
  obtain ⟨m, hm⟩ : ∃ m, (txt t).length = m := ⟨_, rfl⟩
  have he := rd_sound _ _ (rdd_some hn).1
  have hm0 : 0 < m := by rw [← hm]; exact Nat.lt_of_lt_of_le (size_pos t) (txt_pos t he.2)
  have hms : m < s.length := by
    have h1 := congrArg List.length he.1
    have h2 := List.length_pos_iff.2 hr
    simp at h1
    omega
  have hb : (m == 0) = false := by simp; omega
  clear hn he hr
  rw [hm] at CH
  clear hm
  have HB := Lib.hid (RQ.first w)
  obtain ⟨z0, z1, z2, z3⟩ := cell4 HB.out.hz
  have zf := frz HB.out.hz
  go_enter Try.func38, Try.ntmps38
  go_wp2_with ((first | (go_at_call 77; refine (CH.out _).mono ?_; rintro e w1 ⟨g, v, rfl, ⟨x, rfl, hx, hi, he⟩⟩; unfold Ty.v; have TX := Lib.hid (And.intro hx (And.intro hi he)); have GG := Lib.hid g.size; have BX := Lib.hid (al_new w1 (.cells #[iv x.kind, iv x.var, .slice x.A x.sub.length x.c] 24)); have GX := Lib.hid (gr_al w1 (.cells #[iv x.kind, iv x.var, .slice x.A x.sub.length x.c] 24)); have HN := Lib.hid ((HB.out.grow g).grow GX.out); clear g hx hi he; clear HB z0 z1 z2 z3 zf; have HB := HN; clear HN; obtain ⟨z0, z1, z2, z3⟩ := cell4 HB.out.hz; have zf := frz HB.out.hz)))
  refine bodyPost_ret (results_row_tmp (P := Try.prog) rfl _ _ (w.heap.size) _ _ _ _ rfl rfl (set4 HB.out.hz _ _ _ _) rfl rfl rfl) rfl ?_
  exact sep_bad 3 HB.out.gr (Nat.le_refl _)
attribute [local irreducible] Calls in
set_option maxRecDepth 100000 in
set_option maxHeartbeats 4000000 in
theorem rparse_ok (s : T) (w : World) (hl : s.length ≤ 1000) (t : PT) (hn : rdd 0 (rd (s.length + 1) s) = some (t, [])) : Calls Try.prog 38 #[tv s] w (SEP w (if sval (clN t) t = true then ((clN t, t), 0) else ((0, .mk 0 0 []), 3))) := by
  have CH := Lib.hid (fun V => (rread_any (s.length + 1) s 0 V (Nat.lt_succ_self _) (by omega) (by omega) (by omega)).mono fun e w' k => (rrp_both k).1 t [] hn)
  obtain ⟨m, hm⟩ : ∃ m, (txt t).length = m := ⟨_, rfl⟩
  have he := rd_sound _ _ (rdd_some hn).1
  have hm0 : 0 < m := by rw [← hm]; exact Nat.lt_of_lt_of_le (size_pos t) (txt_pos t he.2)
  have hms : m = s.length := by
    have h1 := congrArg List.length he.1
    simp at h1
    omega
  have SZ := Lib.hid (show t.size ≤ s.length from by rw [← hms, ← hm]; exact txt_pos t he.2)
  have SV := Lib.hid (fun h : sval (clN t) t = true => (ck_cke (sval_ck h)).2)
  clear hn he
  rw [hm] at CH
  clear hm
  subst hms
  have hb : ((s.length : Int) == 0) = false := by simp; intro h; rw [h] at hm0; simp at hm0
  generalize hR : (if sval (clN t) t = true then ((clN t, t), 0) else ((0, .mk 0 0 []), (3 : Int))) = R
  have HR := Lib.hid hR
  clear hR
  have HB := Lib.hid (RQ.first w)
  obtain ⟨z0, z1, z2, z3⟩ := cell4 HB.out.hz
  have zf := frz HB.out.hz
  go_enter Try.func38, Try.ntmps38
  go_upto_region 4 with ((first | (go_at_call 77; refine (CH.out _).mono ?_; rintro e w1 ⟨g, v, rfl, ⟨x, rfl, hx, hi, he⟩⟩; unfold Ty.v; have TX := Lib.hid (And.intro hx (And.intro hi he)); have GG := Lib.hid g.size; have BX := Lib.hid (al_new w1 (.cells #[iv x.kind, iv x.var, .slice x.A x.sub.length x.c] 24)); have GX := Lib.hid (gr_al w1 (.cells #[iv x.kind, iv x.var, .slice x.A x.sub.length x.c] 24)); have HN := Lib.hid ((HB.out.grow g).grow GX.out); clear g hx hi he; clear HB z0 z1 z2 z3 zf; have HB := HN; clear HN; obtain ⟨z0, z1, z2, z3⟩ := cell4 HB.out.hz; have zf := frz HB.out.hz)))
  generalize hW5 : World.alloc w1 _ = W5 at *
  obtain ⟨b5, hb5⟩ : ∃ b, w1.heap.size = b := ⟨_, rfl⟩
  have BX := Lib.hid (show W5.heap[b5]? = some (.cells #[iv x.kind, iv x.var, .slice x.A x.sub.length x.c] 24) from by rw [← hb5]; exact BX.out)
  rw [hb5]
  clear hW5 hb5 z0 z1 z2 z3 zf
  have XR := Lib.hid (show x.Rd W5 from TRd.gr TX.out.1 GX.out)
  obtain ⟨N, hN⟩ : ∃ N, (sn [] t).length = N := ⟨_, rfl⟩
  have HN := Lib.hid (show clN t = (N : Int) from by unfold clN; rw [hN])
  have C57 := Lib.hid (fun V (g : Gr W5 V) => (seen0_any x V (TRd.gr XR.out g) (by rw [TX.out.2.2]; have := SZ.out; omega)).mono (fun e w' h => show (∃ A c, e = .returned (.slice A N c)) ∧ Gr V w' from by
    obtain ⟨⟨A, c, rfl⟩, g⟩ := h
    exact ⟨⟨A, c, by rw [← hN, TX.out.2.2]⟩, g⟩))
  clear hN
  unfold Ty.v at C57
  have KS := Lib.hid (fun (V : World) (g : Gr W5 V) => (cell3 (gr_h g BX.out)).1)
  have hb5s := heap_lt BX.out
  go_region_held3 (fun V => V.cell? ⟨b5, 0, none⟩ = some (iv x.kind) ∧ V.cell? ⟨b5, 1, none⟩ = some (iv x.var) ∧ V.cell? ⟨b5, 2, none⟩ = some (.slice x.A x.sub.length x.c)) (first | with_reducible exact KS.out _ Z1.out | with_reducible exact KS.out _ (Z1.out.trans (gr_al _ _)) | with_reducible exact KS.out _ ((gr_al _ _).trans (gr_drew _)) | with_reducible exact KS.out _ (gr_drew _) | with_reducible exact KS.out _ (gr_refl _) | exact set4k (KS.out _ Z1.out) (by omega) _ _ _ _ | go_keep) (first | (go_at_call 57; (with_reducible refine (C57.out _ (gr_drew _)).mono ?_); rintro e z1 ⟨⟨A, c, rfl⟩, g⟩; have Z1 := Lib.hid ((gr_drew W5).trans g); clear g) | (go_at_call 57; (with_reducible refine (C57.out _ ((gr_al _ _).trans (gr_drew _))).mono ?_); rintro e z1 ⟨⟨A, c, rfl⟩, g⟩; have Z1 := Lib.hid (((gr_al _ _).trans (gr_drew _)).trans g); have zz := Lib.hid (gr_h g (show ((W5.alloc (.cells #[iv 0, iv 0, iv 0, .slice none 0 0] 47)).drew).heap[W5.heap.size]? = some (.cells #[iv 0, iv 0, iv 0, .slice none 0 0] 47 (0, 0)) from al_new W5 _)); obtain ⟨zc0, zc1, zc2, zc3⟩ := cell4 zz.out; have zf := frz zz.out; clear g))
  all_goals go_upto_region 5 with (fail)
  · have GU := Lib.hid (Z1.out.trans (gr_al z1 (.cells #[iv N, iv x.kind, iv x.var, .slice x.A x.sub.length x.c] 47)))
    have S6 := Lib.hid (al_new z1 (.cells #[iv N, iv x.kind, iv x.var, .slice x.A x.sub.length x.c] 47))
    generalize hU : World.alloc z1 _ = U at *
    clear hU
    generalize z1.heap.size = b6 at *
    have P6 := Lib.hid (HB.out.grow GU.out)
    have X6 := Lib.hid (And.intro (TRd.gr XR.out GU.out) TX.out.2)
    have VX := Lib.hid (rvalid_any ⟨(N : Int), x⟩ U X6.out.1)
    simp only [X6.out.2.2, Sc.v] at VX
    clear Z1 KS C57 BX XR HB CH hb5s
    obtain ⟨x0, x1, x2, x3⟩ := cell4 S6.out
    obtain ⟨z0, z1, z2, z3⟩ := cell4 P6.out.hz
    have zf := frz P6.out.hz
    rw [← HN.out] at VX
    obtain ⟨sv, hsv⟩ : ∃ b, sval (clN t) t = b := ⟨_, rfl⟩
    rw [hsv] at VX HR
    rw [HN.out] at VX HR
    clear hsv
    cases sv with
    | false =>
      have HR2 : ((0, .mk 0 0 []), (3 : Int)) = R := HR.out
      subst HR2
      clear HR
      go_wp2_with ((first | (go_at_call 68; refine VX.out.mono ?_; rintro e w7 ⟨rfl, g⟩; have PP := Lib.hid (P6.out.grow g); clear x0 x1 x2 x3 z0 z1 z2 z3 zf; obtain ⟨x0, x1, x2, x3⟩ := cell4 (gr_h g S6.out); obtain ⟨z0, z1, z2, z3⟩ := cell4 PP.out.hz; have zf := frz PP.out.hz; have X7 := Lib.hid (TRd.gr X6.out.1 g); clear g)))
      refine bodyPost_ret (results_row_tmp (P := Try.prog) rfl _ _ (w.heap.size) _ _ _ _ rfl rfl (set4 PP.out.hz _ _ _ _) rfl rfl rfl) rfl ?_
      exact sep_bad 3 PP.out.gr (Nat.le_refl _)
    | true =>
      have HR2 : (((N : Int), t), (0 : Int)) = R := HR.out
      subst HR2
      clear HR
      go_wp2_with ((first | (go_at_call 68; refine VX.out.mono ?_; rintro e w7 ⟨rfl, g⟩; have PP := Lib.hid (P6.out.grow g); clear x0 x1 x2 x3 z0 z1 z2 z3 zf; obtain ⟨x0, x1, x2, x3⟩ := cell4 (gr_h g S6.out); obtain ⟨z0, z1, z2, z3⟩ := cell4 PP.out.hz; have zf := frz PP.out.hz; have X7 := Lib.hid (TRd.gr X6.out.1 g); clear g)))
      refine bodyPost_ret (results_row_tmp (P := Try.prog) rfl _ _ (w.heap.size) _ _ _ _ rfl rfl (set4 PP.out.hz _ _ _ _) rfl rfl rfl) rfl ?_
      refine ⟨x, rfl, ?_, X6.out.2.2, set4g PP.out.gr (Nat.le_refl _) _ _ _ _⟩
      exact (((((KP.cell (b := w.heap.size) (by simp) _).trans (KP.cell (by simp) _)).trans (KP.cell (by simp) _)).trans (KP.cell (by simp) _)).rd X7.out X6.out.2.1)
  · have GU := Lib.hid (set4g Z1.out (Nat.le_refl _) (iv N) (iv x.kind) (iv x.var) (.slice x.A x.sub.length x.c))
    have S6 := Lib.hid (set4 zz.out (iv N) (iv x.kind) (iv x.var) (.slice x.A x.sub.length x.c))
    generalize hU : (((z1.setCell ⟨W5.heap.size, 0, none⟩ _).setCell ⟨W5.heap.size, 1, none⟩ _).setCell ⟨W5.heap.size, 2, none⟩ _).setCell ⟨W5.heap.size, 3, none⟩ _ = U at *
    clear hU zc0 zc1 zc2 zc3 zf zz
    generalize W5.heap.size = b6 at *
    have P6 := Lib.hid (HB.out.grow GU.out)
    have X6 := Lib.hid (And.intro (TRd.gr XR.out GU.out) TX.out.2)
    have VX := Lib.hid (rvalid_any ⟨(N : Int), x⟩ U X6.out.1)
    simp only [X6.out.2.2, Sc.v] at VX
    clear Z1 KS C57 BX XR HB CH hb5s
    obtain ⟨x0, x1, x2, x3⟩ := cell4 S6.out
    obtain ⟨z0, z1, z2, z3⟩ := cell4 P6.out.hz
    have zf := frz P6.out.hz
    rw [← HN.out] at VX
    obtain ⟨sv, hsv⟩ : ∃ b, sval (clN t) t = b := ⟨_, rfl⟩
    rw [hsv] at VX HR
    rw [HN.out] at VX HR
    clear hsv
    cases sv with
    | false =>
      have HR2 : ((0, .mk 0 0 []), (3 : Int)) = R := HR.out
      subst HR2
      clear HR
      go_wp2_with ((first | (go_at_call 68; refine VX.out.mono ?_; rintro e w7 ⟨rfl, g⟩; have PP := Lib.hid (P6.out.grow g); clear x0 x1 x2 x3 z0 z1 z2 z3 zf; obtain ⟨x0, x1, x2, x3⟩ := cell4 (gr_h g S6.out); obtain ⟨z0, z1, z2, z3⟩ := cell4 PP.out.hz; have zf := frz PP.out.hz; have X7 := Lib.hid (TRd.gr X6.out.1 g); clear g)))
      refine bodyPost_ret (results_row_tmp (P := Try.prog) rfl _ _ (w.heap.size) _ _ _ _ rfl rfl (set4 PP.out.hz _ _ _ _) rfl rfl rfl) rfl ?_
      exact sep_bad 3 PP.out.gr (Nat.le_refl _)
    | true =>
      have HR2 : (((N : Int), t), (0 : Int)) = R := HR.out
      subst HR2
      clear HR
      go_wp2_with ((first | (go_at_call 68; refine VX.out.mono ?_; rintro e w7 ⟨rfl, g⟩; have PP := Lib.hid (P6.out.grow g); clear x0 x1 x2 x3 z0 z1 z2 z3 zf; obtain ⟨x0, x1, x2, x3⟩ := cell4 (gr_h g S6.out); obtain ⟨z0, z1, z2, z3⟩ := cell4 PP.out.hz; have zf := frz PP.out.hz; have X7 := Lib.hid (TRd.gr X6.out.1 g); clear g)))
      refine bodyPost_ret (results_row_tmp (P := Try.prog) rfl _ _ (w.heap.size) _ _ _ _ rfl rfl (set4 PP.out.hz _ _ _ _) rfl rfl rfl) rfl ?_
      refine ⟨x, rfl, ?_, X6.out.2.2, set4g PP.out.gr (Nat.le_refl _) _ _ _ _⟩
      exact (((((KP.cell (b := w.heap.size) (by simp) _).trans (KP.cell (by simp) _)).trans (KP.cell (by simp) _)).trans (KP.cell (by simp) _)).rd X7.out X6.out.2.1)
theorem rparse_any (s : T) (w : World) (hl : s.length ≤ 1000) : Calls Try.prog 38 #[tv s] w (SEP w (psE s)) := by
  cases hn : rdd 0 (rd (s.length + 1) s) with
  | none =>
    have h : psE s = ((0, .mk 0 0 []), 3) := by
      unfold psE
      split
      · rename_i t e
        rw [if_neg]
        intro hv
        rw [e] at hn
        have h2 := (ck_cke (sval_ck hv)).2
        have h3 := dep_size t
        rw [rdd_ok (by omega)] at hn
        cases hn
      · rfl
    rw [h]
    exact rparse_no s w hl hn
  | some p =>
    obtain ⟨t, r⟩ := p
    have e := (rdd_some hn).1
    unfold psE
    rw [e]
    cases r with
    | nil => exact rparse_ok s w hl t hn
    | cons a q => exact rparse_more s w hl t _ hn (by simp)
end Go.Proofs.Ytjlmhfdigoogfaa
