/- Walks: Open (29), its closure (67). -/
import Derived.Test.YtjlmhfdigoogfaaClE
namespace Go.Proofs.Ytjlmhfdigoogfaa
open Go.RowKit Go.ChangeMaps

theorem results_row_tmp2 {P : Program} {fn : Func} {p u v : Tmp} {ty : TypeId} {x y : Value} (h : fn.results = #[.cell p ty, .tmp u, .tmp v]) (tmps : Array Value) (w : World) (g : Nat) (t : TypeId) (cs : Array Value) (fr : Nat × Nat) (d : TypeDesc)
    (hp : tmps.getD p undef = .pointer (some ⟨g, 0, none⟩)) (hx : tmps.getD u undef = x) (hy : tmps.getD v undef = y) (hg : w.heap[g]? = some (.cells cs t fr))
    (hu : P.underlying ty = some d) (hd : (match d with | .struct _ | .array _ _ => true | _ => false) = true) (hi : (P.info? ty).map (·.size) = some cs.size) :
    (results fn tmps).run P w = .ok (.tuple #[.agg cs, x, y]) w := by
  have hp' : tmps[p]?.getD undef = .pointer (some ⟨g, 0, none⟩) := by simpa using hp
  have hx' : tmps[u]?.getD undef = x := by simpa using hx
  have hy' : tmps[v]?.getD undef = y := by simpa using hy
  simp [results, h, hp', hx', hy', asAddr, run_loadVar_row w g t ty cs fr d hg hu hd hi]
/-- What stands for a variable in an opened scheme. -/
def opn (n0 next n : Int) : Int := if n < n0 then wr64 (next + n) else wr64 (n - n0)
set_option maxRecDepth 100000 in
set_option maxHeartbeats 4000000 in
theorem open1_any (p0 q0 : Nat) (n0 next : Int) (w0 : World) (hp : w0.cell? ⟨p0, 0, none⟩ = some (iv n0)) (hq : w0.cell? ⟨q0, 0, none⟩ = some (iv next)) (n : Int) (w : World) (g : Gr w0 w) :
    Calls Try.prog 67 #[iv n, .pointer (some ⟨p0, 0, none⟩), .pointer (some ⟨q0, 0, none⟩)] w (FR w0 (vr (opn n0 next n)) w) := by
  have h' := gr_c (g.trans (gr_al w (.cells #[iv 0, iv 0, .slice none 0 0] 24))) hp
  have h2' := gr_c (g.trans (gr_al w (.cells #[iv 0, iv 0, .slice none 0 0] 24))) hq
  have HA := Lib.hid (show (w.alloc (.cells #[iv 0, iv 0, .slice none 0 0] 24)).heap[w.heap.size]? = some (.cells #[iv 0, iv 0, .slice none 0 0] 24 (0, 0)) from al_new _ _)
  have HC := Lib.hid (show opn n0 next n = if n < n0 then wr64 (next + n) else wr64 (n - n0) from rfl)
  obtain ⟨z, hz⟩ : ∃ z, opn n0 next n = z := ⟨_, rfl⟩
  rw [hz] at HC ⊢
  have VA := Lib.hid (fun V => variable_any z V)
  clear hp hq hz g
  by_cases hn : n < n0
  · have hw : IntKind.i64.wrap (next + n) = z := by have := HC.out; rw [if_pos hn] at this; exact this.symm
    go_enter Try.func67, Try.ntmps67
    go_wp2_with (first | (go_at_call 62; refine (VA.out _).mono ?_; rintro e w6 ⟨rfl, g6⟩; have G6 := Lib.hid g6; have H7 := Lib.hid (gr_h g6 HA.out); obtain ⟨⟨c0, c1, c2⟩, fz⟩ := cell3 H7.out; have z0 := fz 0; have z1 := fz 1; have z2 := fz 2; clear g6 fz))
    refine bodyPost_ret (results_cell_row (P := Try.prog) rfl _ _ (w.heap.size) _ _ _ _ rfl (set3 (a' := iv 5) (b' := iv z) (c' := .slice none 0 0) H7.out) rfl rfl rfl) rfl ⟨⟨_, rfl, TyR.flat _ _ 5 z⟩, ?_⟩
    exact gr_cell (gr_cell (gr_cell ((gr_al _ _).trans G6.out) (Nat.le_refl _) _) (Nat.le_refl _) _) (Nat.le_refl _) _
  · have hw : IntKind.i64.wrap (n - n0) = z := by have := HC.out; rw [if_neg hn] at this; exact this.symm
    go_enter Try.func67, Try.ntmps67
    go_wp2_with (first | (go_at_call 62; refine (VA.out _).mono ?_; rintro e w6 ⟨rfl, g6⟩; have G6 := Lib.hid g6; have H7 := Lib.hid (gr_h g6 HA.out); obtain ⟨⟨c0, c1, c2⟩, fz⟩ := cell3 H7.out; have z0 := fz 0; have z1 := fz 1; have z2 := fz 2; clear g6 fz))
    refine bodyPost_ret (results_cell_row (P := Try.prog) rfl _ _ (w.heap.size) _ _ _ _ rfl (set3 (a' := iv 5) (b' := iv z) (c' := .slice none 0 0) H7.out) rfl rfl rfl) rfl ⟨⟨_, rfl, TyR.flat _ _ 5 z⟩, ?_⟩
    exact gr_cell (gr_cell (gr_cell ((gr_al _ _).trans G6.out) (Nat.le_refl _) _) (Nat.le_refl _) _) (Nat.le_refl _) _
/-- What Open answers. -/
def opE (n0 : Int) (t : PT) (next : Int) : (PT × Int) × Int :=
  if ck t ≠ 0 then ((.mk 0 0 [], 0), ck t) else if sval n0 t = false then ((.mk 0 0 [], 0), 1) else if next < 0 ∨ 999799 < next then ((.mk 0 0 [], 0), 2)
  else ((t.rep fun n => vr (opn n0 next n), next + n0), 0)
/-- A type, a number and an error as a result. -/
def OPP (w : World) (R : (PT × Int) × Int) (e : Ending) (w' : World) : Prop := ∃ q : Ty, e = .returned (.tuple #[.agg #[iv q.kind, iv q.var, .slice q.A q.sub.length q.c], iv R.1.2, iv R.2]) ∧ q.Rd w' ∧ q.er = R.1.1 ∧ Gr w w'
theorem opp_bad {w V : World} {b : Nat} (n : Int) (g : Gr w V) (hb : w.heap.size ≤ b) : OPP w ((.mk 0 0 [], 0), n) (.returned (.tuple #[.agg #[iv 0, iv 0, .slice none 0 0], iv 0, iv n])) (((V.setCell ⟨b, 0, none⟩ (iv 0)).setCell ⟨b, 1, none⟩ (iv 0)).setCell ⟨b, 2, none⟩ (.slice none 0 0)) :=
  ⟨yk 0 0, rfl, TRd.nil _, yk_er 0 0, gr_cell (gr_cell (gr_cell g hb _) hb _) hb _⟩
theorem opp_ok {w V : World} {b : Nat} {Y : Ty} {t : PT} {m : Int} (hz : V.heap[b]? = some (.cells #[iv 0, iv 0, .slice none 0 0] 24 (0, 0))) (g : Gr w V) (hb : w.heap.size ≤ b) (hY : Y.Rd V) (he : Y.er = t) (hk : KZ t) : OPP w ((t, m), 0) (.returned (.tuple #[.agg #[iv Y.kind, iv Y.var, .slice Y.A Y.sub.length Y.c], iv m, iv 0])) (((V.setCell ⟨b, 0, none⟩ (iv Y.kind)).setCell ⟨b, 1, none⟩ (iv Y.var)).setCell ⟨b, 2, none⟩ (.slice Y.A Y.sub.length Y.c)) := by
  refine ⟨Y, rfl, ?_, he, gr_cell (gr_cell (gr_cell g hb _) hb _) hb _⟩
  refine TRd.keepAt hY (tin_nz hz (fun i n hi => ?_) hY fun y hy => ?_) (by simp [World.setCell]) fun j hj _ => ((Below.heap_setCell _ _ _ _ hj).trans (Below.heap_setCell _ _ _ _ hj)).trans (Below.heap_setCell _ _ _ _ hj)
  · match i, hi with
    | 0, hi => simpa using hi.symm
    | 1, hi => simpa using hi.symm
    | 2, hi => simp at hi
    | i + 3, hi => simp at hi
  · refine kz_sub (t := Y.er) (by rw [he]; exact hk) ?_
    rw [er_sub, ers_map]
    exact List.mem_map.2 ⟨y, hy, rfl⟩
theorem opp_drew {w V : World} {R : (PT × Int) × Int} {e : Ending} (h : OPP w R e V) : OPP w R e V.drew := by
  obtain ⟨q, h1, h2, h3, h4⟩ := h
  exact ⟨q, h1, TRd.gr h2 (gr_drew _), h3, h4.trans (gr_drew _)⟩
theorem sval_bd {n : Int} {t : PT} (h : sval n t = true) : 0 ≤ n ∧ n ≤ 200 := by
  unfold sval at h
  simp only [Bool.and_eq_true, decide_eq_true_eq] at h
  exact ⟨h.1.1.2, h.1.2⟩
/-- Behind the boxes. -/
structure OB (n0 : Int) (x : Ty) (w : World) (b0 b2 : Nat) (V : World) : Prop where
  gr : Gr w V
  ht : V.heap[b0]? = some (.cells #[iv n0, iv x.kind, iv x.var, .slice x.A x.sub.length x.c] 47 (0, 0))
  hz : V.heap[b2]? = some (.cells #[iv 0, iv 0, .slice none 0 0] 24 (0, 0))
  lo : w.heap.size ≤ b2
theorem OB.grow {n0 : Int} {x : Ty} {w V V' : World} {b0 b2 : Nat} (h : OB n0 x w b0 b2 V) (g : Gr V V') : OB n0 x w b0 b2 V' := ⟨h.gr.trans g, gr_h g h.ht, gr_h g h.hz, h.lo⟩
set_option maxRecDepth 100000 in
set_option maxHeartbeats 8000000 in
theorem open_any (n0 : Int) (x : Ty) (next : Int) (w : World) (hx : x.Rd w) : Calls Try.prog 29 #[.agg #[iv n0, iv x.kind, iv x.var, .slice x.A x.sub.length x.c], iv next] w (OPP w (opE n0 x.er next)) := by
  have CK := Lib.hid (fun V (g : Gr w V) => show Calls Try.prog 17 #[.agg #[iv x.kind, iv x.var, .slice x.A x.sub.length x.c]] V (fun e w' => e = .returned (iv (ck x.er)) ∧ Gr V w') from check_any x V (TRd.gr hx g))
  have CV := Lib.hid (fun V (g : Gr w V) => show Calls Try.prog 66 #[.agg #[iv n0, iv x.kind, iv x.var, .slice x.A x.sub.length x.c]] V (fun e w' => e = .returned (.bool (sval n0 x.er)) ∧ Gr V w') from valid_any ⟨n0, x⟩ V (TRd.gr hx g))
  have HX := Lib.hid (fun V (g : Gr w V) => TRd.gr hx g)
  have HR := Lib.hid (show opE n0 x.er next = if ck x.er ≠ 0 then ((.mk 0 0 [], 0), ck x.er) else if sval n0 x.er = false then ((.mk 0 0 [], 0), 1) else if next < 0 ∨ 999799 < next then ((.mk 0 0 [], 0), 2)
  else ((x.er.rep fun n => vr (opn n0 next n), next + n0), 0) from rfl)
  obtain ⟨R, hR⟩ : ∃ R, opE n0 x.er next = R := ⟨_, rfl⟩
  rw [hR] at HR ⊢
  obtain ⟨q, hq⟩ : ∃ q, ck x.er = q := ⟨_, rfl⟩
  have HQ := Lib.hid hq
  obtain ⟨sv, hsv⟩ : ∃ s, sval n0 x.er = s := ⟨_, rfl⟩
  have HSV := Lib.hid hsv
  simp only [hq, hsv] at CK CV HR
  have GB := Lib.hid (show OB n0 x w w.heap.size (w.heap.size + 1 + 1) (((w.alloc (.cells #[iv n0, iv x.kind, iv x.var, .slice x.A x.sub.length x.c] 47)).alloc (.cells #[iv next] 3)).alloc (.cells #[iv 0, iv 0, .slice none 0 0] 24)) from
    ⟨((gr_al _ _).trans (gr_al _ _)).trans (gr_al _ _), gr_h ((gr_al _ _).trans (gr_al _ _)) (al_new _ _), al_at _ _ (by simp), by omega⟩)
  have GN := Lib.hid (show (((w.alloc (.cells #[iv n0, iv x.kind, iv x.var, .slice x.A x.sub.length x.c] 47)).alloc (.cells #[iv next] 3)).alloc (.cells #[iv 0, iv 0, .slice none 0 0] 24)).heap[w.heap.size + 1]? = some (.cells #[iv next] 3 (0, 0)) from gr_h (gr_al _ _) (al_at _ _ (by simp)))
  clear hx hR hq hsv
  go_enter Try.func29, Try.ntmps29
  go_upto_region 1 with (fail)
  generalize hW0 : World.alloc (World.alloc (World.alloc w _) _) _ = W0 at *
  clear hW0
  obtain ⟨b0, hb0⟩ : ∃ b, w.heap.size = b := ⟨_, rfl⟩
  obtain ⟨b1, hb1⟩ : ∃ b, b0 + 1 = b := ⟨_, rfl⟩
  obtain ⟨b2, hb2⟩ : ∃ b, b1 + 1 = b := ⟨_, rfl⟩
  have HB := Lib.hid (show OB n0 x w b0 b2 W0 from by rw [← hb2, ← hb1, ← hb0]; exact GB.out)
  have HN := Lib.hid (show W0.heap[b1]? = some (.cells #[iv next] 3 (0, 0)) from by rw [← hb1, ← hb0]; exact GN.out)
  rw [hb0, hb1, hb2]
  clear hb0 hb1 hb2 GB GN
  have hlo := HB.out.lo
  obtain ⟨x0, x1, x2, x3⟩ := cell4 HB.out.ht
  by_cases hq0 : q = 0
  · subst hq0
    rw [if_neg (by simp)] at HR
    go_upto_region 4 with (first | (go_at_call 17; (with_reducible refine (CK.out _ HB.out.gr).mono ?_); rintro e w1 ⟨rfl, g1⟩; have H1 := Lib.hid (HB.out.grow g1); have N1 := Lib.hid (gr_h g1 HN.out); clear g1))
    clear x0 x1 x2 x3
    obtain ⟨x0, x1, x2, x3⟩ := cell4 H1.out.ht
    cases sv with
    | false =>
      obtain rfl : ((.mk 0 0 [], 0), 1) = R := by have := HR.out; rw [if_pos rfl] at this; exact this.symm
      clear HR
      go_wp2_with (first | (go_at_call 66; (with_reducible refine (CV.out _ H1.out.gr).mono ?_); rintro e w2 ⟨rfl, g2⟩; have H2 := Lib.hid (H1.out.grow g2); obtain ⟨⟨z0, z1, z2⟩, fz⟩ := cell3 H2.out.hz; have f0 := fz 0; have f1 := fz 1; have f2 := fz 2; clear g2 fz))
      refine bodyPost_ret (results_row_tmp2 (P := Try.prog) rfl _ _ b2 _ _ _ _ rfl rfl rfl (set3 H2.out.hz) rfl rfl rfl) rfl ?_
      exact opp_bad 1 H2.out.gr hlo
    | true =>
      rw [if_neg (by simp)] at HR
      go_upto_region 6 with (first | (go_at_call 66; (with_reducible refine (CV.out _ H1.out.gr).mono ?_); rintro e w2 ⟨rfl, g2⟩; have H2 := Lib.hid (H1.out.grow g2); have N2 := Lib.hid (gr_h g2 N1.out); obtain ⟨⟨z0, z1, z2⟩, fz⟩ := cell3 H2.out.hz; have f0 := fz 0; have f1 := fz 1; have f2 := fz 2; have n1 := cell1 N2.out; clear g2 fz))
      clear x0 x1 x2 x3
      obtain ⟨x0, x1, x2, x3⟩ := cell4 H2.out.ht
      by_cases hn1 : next < 0
      · obtain rfl : ((.mk 0 0 [], 0), 2) = R := by have := HR.out; rw [if_pos (.inl hn1)] at this; exact this.symm
        clear HR
        go_wp2
        refine bodyPost_ret (results_row_tmp2 (P := Try.prog) rfl _ _ b2 _ _ _ _ rfl rfl rfl (set3 H2.out.hz) rfl rfl rfl) rfl ?_
        exact opp_bad 2 H2.out.gr hlo
      · by_cases hn2 : 999799 < next
        · obtain rfl : ((.mk 0 0 [], 0), 2) = R := by have := HR.out; rw [if_pos (.inr hn2)] at this; exact this.symm
          clear HR
          go_wp2
          refine bodyPost_ret (results_row_tmp2 (P := Try.prog) rfl _ _ b2 _ _ _ _ rfl rfl rfl (set3 H2.out.hz) rfl rfl rfl) rfl ?_
          exact opp_bad 2 H2.out.gr hlo
        · obtain rfl : ((x.er.rep fun n => vr (opn n0 next n), next + n0), 0) = R := by have := HR.out; rw [if_neg (by omega)] at this; exact this.symm
          have hck := ck_cke HQ.out
          obtain ⟨s1, s2⟩ := sval_bd HSV.out
          have RP := Lib.hid (replace67 ⟨b0, 0, none⟩ ⟨b1, 0, none⟩ (fun n => vr (opn n0 next n)) w2 (fun n U gU => open1_any b0 b1 n0 next w2 x0 n1 n U gU) x w2 (gr_refl _) (HX.out _ H2.out.gr) (by have := hck.2; omega))
          have HKZ := Lib.hid (show KZ (x.er.rep fun n => vr (opn n0 next n)) from kz_rep (fun n => kz_vr _) (kz_good hck.1))
          obtain ⟨t, ht⟩ : ∃ t, (x.er.rep fun n => vr (opn n0 next n)) = t := ⟨_, rfl⟩
          rw [ht] at RP HKZ ⊢
          unfold Ty.v at RP
          have HT := Lib.hid ht
          clear HR hck ht
          have hsum : IntKind.i64.wrap (next + n0) = next + n0 := IntWalk.i64_in _ (by omega)
          have HSUM := Lib.hid hsum
          clear hsum
          clear HSV HQ CK CV
          go_upto_region 9 with (first | (go_at_call 58; (with_reducible refine RP.out.mono ?_); rintro e w5 ⟨⟨r, rfl, Y, rfl, tr⟩, g5⟩; unfold Ty.v; have T5 := Lib.hid tr; have H5 := Lib.hid ((H2.out.grow g5).grow (gr_al w5 (.cells #[iv Y.kind, iv Y.var, .slice Y.A Y.sub.length Y.c] 24))); have HA := Lib.hid (al_new w5 (.cells #[iv Y.kind, iv Y.var, .slice Y.A Y.sub.length Y.c] 24)); have GA := Lib.hid (gr_al w5 (.cells #[iv Y.kind, iv Y.var, .slice Y.A Y.sub.length Y.c] 24)); have G5 := Lib.hid (g5.trans (gr_al w5 (.cells #[iv Y.kind, iv Y.var, .slice Y.A Y.sub.length Y.c] 24))); clear tr g5))
          generalize hW6 : World.alloc w5 _ = W6 at *
          clear hW6 x0 x1 x2 x3 z0 z1 z2 f0 f1 f2 n1
          obtain ⟨b8, hb8⟩ : ∃ k, w5.heap.size = k := ⟨_, rfl⟩
          have HA := Lib.hid (show W6.heap[b8]? = some (.cells #[iv Y.kind, iv Y.var, .slice Y.A Y.sub.length Y.c] 24 (0, 0)) from by rw [← hb8]; exact HA.out)
          rw [hb8]
          clear hb8
          obtain ⟨⟨y0, y1, y2⟩, -⟩ := cell3 HA.out
          obtain ⟨⟨z0, z1, z2⟩, fz⟩ := cell3 H5.out.hz
          have f0 := fz 0
          have f1 := fz 1
          have f2 := fz 2
          have n1 := cell1 (gr_h G5.out N2.out)
          obtain ⟨x0, x1, x2, x3⟩ := cell4 H5.out.ht
          have hlo := H5.out.lo
          have hsum := HSUM.out
          have d02 : b0 ≠ b2 := fun h => by subst h; have := H5.out.ht.symm.trans H5.out.hz; simp at this
          have d20 : b2 ≠ b0 := fun h => d02 h.symm
          have d12 : b1 ≠ b2 := fun h => by subst h; have := (gr_h G5.out N2.out).symm.trans H5.out.hz; simp at this
          have d21 : b2 ≠ b1 := fun h => d12 h.symm
          clear fz
          go_region_law (fail)
          all_goals go_wp2
          all_goals refine bodyPost_ret (results_row_tmp2 (P := Try.prog) (x := iv (next + n0)) (y := iv 0) rfl _ _ b2 _ _ _ _ rfl rfl rfl (set3 (a' := iv Y.kind) (b' := iv Y.var) (c' := .slice Y.A Y.sub.length Y.c) H5.out.hz) rfl rfl rfl) rfl ?_
          all_goals exact opp_drew <| opp_ok H5.out.hz H5.out.gr hlo (TRd.gr T5.out.1 GA.out) (T5.out.2.2.trans HT.out.symm) (by rw [HT.out]; exact HKZ.out)
  · have hb : (q == 0) = false := by simpa using hq0
    have hb2 : (q != 0) = true := by simpa using hq0
    obtain rfl : ((.mk 0 0 [], 0), q) = R := by have := HR.out; rw [if_pos hq0] at this; exact this.symm
    go_wp2_with (first | (go_at_call 17; (with_reducible refine (CK.out _ HB.out.gr).mono ?_); rintro e w1 ⟨rfl, g1⟩; have H1 := Lib.hid (HB.out.grow g1); obtain ⟨⟨z0, z1, z2⟩, fz⟩ := cell3 H1.out.hz; have f0 := fz 0; have f1 := fz 1; have f2 := fz 2; clear g1 fz))
    refine bodyPost_ret (results_row_tmp2 (P := Try.prog) rfl _ _ b2 _ _ _ _ rfl rfl rfl (set3 H1.out.hz) rfl rfl rfl) rfl ?_
    exact opp_bad q H1.out.gr hlo
end Go.Proofs.Ytjlmhfdigoogfaa
