/- Walks: Apply (23). -/
import Derived.Test.YtjlmhfdigoogfaaApC
import Derived.Laws.ResultCell
import Derived.Deep.DeepCutAuto
namespace Go.Proofs.Ytjlmhfdigoogfaa
open Go.RowKit

theorem results_row_tmp {P : Program} {fn : Func} {p u : Tmp} {ty : TypeId} {x : Value} (h : fn.results = #[.cell p ty, .tmp u]) (tmps : Array Value) (w : World) (g : Nat) (t : TypeId) (cs : Array Value) (fr : Nat × Nat) (d : TypeDesc)
    (hp : tmps.getD p undef = .pointer (some ⟨g, 0, none⟩)) (hx : tmps.getD u undef = x) (hg : w.heap[g]? = some (.cells cs t fr))
    (hu : P.underlying ty = some d) (hd : (match d with | .struct _ | .array _ _ => true | _ => false) = true) (hi : (P.info? ty).map (·.size) = some cs.size) :
    (results fn tmps).run P w = .ok (.tuple #[.agg cs, x]) w := by
  rw [results_cell_tmp h, hp, hx]
  simp [asAddr, run_loadVar_row w g t ty cs fr d hg hu hd hi, Result.andThen]
/-- What Apply leaves. -/
def ApP (w : World) (R : PT × Int) (e : Ending) (w' : World) : Prop := ∃ q : Ty, e = .returned (.tuple #[.agg #[iv q.kind, iv q.var, .slice q.A q.sub.length q.c], iv R.2]) ∧ q.Rd w' ∧ q.er = R.1 ∧ Gr w w'
theorem app_zero {w V : World} {n : Int} (g : Gr w V) : ApP w (.mk 0 0 [], n) (.returned (.tuple #[.agg #[iv 0, iv 0, .slice none 0 0], iv n])) V := ⟨yk 0 0, rfl, TRd.nil _, yk_er 0 0, g⟩
/-- Behind the boxes. -/
structure AB (A : Option Addr) (N c : Nat) (x : Ty) (w : World) (b0 b1 b2 : Nat) (V : World) : Prop where
  gr : Gr w V
  hs : V.heap[b0]? = some (.cells #[.slice A N c] 27 (0, 0))
  ht : V.heap[b1]? = some (.cells #[iv x.kind, iv x.var, .slice x.A x.sub.length x.c] 24 (0, 0))
  hz : V.heap[b2]? = some (.cells #[iv 0, iv 0, .slice none 0 0] 24 (0, 0))
  lo : w.heap.size ≤ b2
theorem AB.grow {A : Option Addr} {N c : Nat} {x : Ty} {w V V' : World} {b0 b1 b2 : Nat} (h : AB A N c x w b0 b1 b2 V) (g : Gr V V') : AB A N c x w b0 b1 b2 V' := ⟨h.gr.trans g, gr_h g h.hs, gr_h g h.ht, gr_h g h.hz, h.lo⟩
theorem AB.of (A : Option Addr) (N c : Nat) (x : Ty) (w Ws : World) (h : w.alloc (.cells #[.slice A N c] 27) = Ws) : AB A N c x Ws w.heap.size (w.heap.size + 1) (w.heap.size + 1 + 1) (((w.alloc (.cells #[.slice A N c] 27)).alloc (.cells #[iv x.kind, iv x.var, .slice x.A x.sub.length x.c] 24)).alloc (.cells #[iv 0, iv 0, .slice none 0 0] 24)) := by
  subst h
  exact ⟨(gr_al _ _).trans (gr_al _ _), gr_h ((gr_al _ _).trans (gr_al _ _)) (al_new _ _), gr_h (gr_al _ _) (al_at _ _ (by simp)), al_at _ _ (by simp), by simp⟩
theorem ApP.low {w Ws : World} {R : PT × Int} {e : Ending} {V : World} (h : ApP Ws R e V) (g : Gr w Ws) : ApP w R e V := by
  obtain ⟨q, h1, h2, h3, h4⟩ := h
  exact ⟨q, h1, h2, h3, g.trans h4⟩
/-- An error is returned. -/
theorem app_bad {w V : World} {b : Nat} (n : Int) (g : Gr w V) (hb : w.heap.size ≤ b) : ApP w (.mk 0 0 [], n) (.returned (.tuple #[.agg #[iv 0, iv 0, .slice none 0 0], iv n])) (((V.setCell ⟨b, 0, none⟩ (iv 0)).setCell ⟨b, 1, none⟩ (iv 0)).setCell ⟨b, 2, none⟩ (.slice none 0 0)) :=
  app_zero (gr_cell (gr_cell (gr_cell g hb _) hb _) hb _)
theorem apg_step {o : Option Int} {s : List PA} {k : Nat} {p : PA} (h : s[k]? = some p) : apg o (s.drop k) = if p.1 < 0 ∨ 999999 < p.1 then 2 else if (o.map fun m => decide (p.1 ≤ m)) = some true then 10 else if ck p.2 ≠ 0 then ck p.2 else apg (some p.1) (s.drop (k + 1)) := by
  obtain ⟨hk, rfl⟩ := List.getElem?_eq_some_iff.1 h
  rw [List.drop_eq_getElem_cons hk, apg]
def prv (L : List As) : Nat → Option Int
  | 0 => none
  | k + 1 => (L[k]?).map (·.var)
set_option maxRecDepth 100000 in
set_option maxHeartbeats 8000000 in
theorem apply_any (A : Option Addr) (c : Nat) (L : List As) (x : Ty) (w : World) (hL : ARd w A L) (hl : L.length ≤ 1000000) (hx : x.Rd w) : Calls Try.prog 23 #[.slice A L.length c, x.v] w (ApP w (apE (L.map As.er) x.er)) := by
  obtain ⟨Ws, hWs⟩ : ∃ Ws, w.alloc (.cells #[.slice A L.length c] 27) = Ws := ⟨_, rfl⟩
  have gw : Gr w Ws := by rw [← hWs]; exact gr_al _ _
  have GW := Lib.hid gw
  have HL := Lib.hid (fun V (g : Gr Ws V) => hL.gr (gw.trans g))
  have CK := Lib.hid (fun V (g : Gr Ws V) => check_any x V (TRd.gr hx (gw.trans g)))
  have CA := Lib.hid (fun (V : World) (g : Gr Ws V) (h : x.er.size ≤ 1000) => replace59 ⟨w.heap.size, 0, none⟩ (bsfn (L.map As.er)) Ws (fun n U gU => apply1_any w.heap.size A c L _ (by rw [← hWs]; exact cell1 (al_new _ _)) (hL.gr gw) hl n U gU) x V g (TRd.gr hx (gw.trans g)) h)
  have SW := Lib.hid (show Ws.heap.size = w.heap.size + 1 from by rw [← hWs]; simp)
  obtain ⟨N, hN⟩ : ∃ N, L.length = N := ⟨_, rfl⟩
  have HN := Lib.hid hN
  rw [hN] at hWs
  simp only [hN] at CA hl ⊢
  have HB := Lib.hid (AB.of A N c x w Ws hWs)
  obtain ⟨s, hs⟩ : ∃ s, L.map As.er = s := ⟨_, rfl⟩
  have HS := Lib.hid hs
  simp only [hs] at CA ⊢
  have HR := Lib.hid (show apE s x.er = if ck x.er ≠ 0 then (.mk 0 0 [], ck x.er) else if apg none s ≠ 0 then (.mk 0 0 [], apg none s)
  else if ck (x.er.rep (apf s)) ≠ 0 then (.mk 0 0 [], 4) else (x.er.rep (apf s), 0) from rfl)
  obtain ⟨R, hR⟩ : ∃ R, apE s x.er = R := ⟨_, rfl⟩
  rw [hR] at HR ⊢
  obtain ⟨q, hq⟩ : ∃ q, ck x.er = q := ⟨_, rfl⟩
  have HQ := Lib.hid hq
  simp only [hq] at CK HR
  clear hL hx hN hs hR hq gw hWs
  unfold Ty.v at *
  go_enter Try.func23, Try.ntmps23
  go_upto_region 1 with (fail)
  generalize hW0 : World.alloc (World.alloc (World.alloc w _) _) _ = W0 at *
  clear hW0
  obtain ⟨b0, hb0⟩ : ∃ b, w.heap.size = b := ⟨_, rfl⟩
  obtain ⟨b1, hb1⟩ : ∃ b, b0 + 1 = b := ⟨_, rfl⟩
  obtain ⟨b2, hb2⟩ : ∃ b, b1 + 1 = b := ⟨_, rfl⟩
  have HB := Lib.hid (show AB A N c x Ws b0 b1 b2 W0 from by rw [← hb2, ← hb1, ← hb0]; exact HB.out)
  have SW := Lib.hid (show Ws.heap.size ≤ b2 from by have := SW.out; omega)
  have hb00 := Lib.hid hb0
  rw [hb0, hb1, hb2]
  clear hb0 hb1 hb2
  obtain ⟨⟨x0, x1, x2⟩, -⟩ := cell3 HB.out.ht
  by_cases hq0 : q = 0
  · subst hq0
    go_upto_region 4 with (first | (go_at_call 17; (with_reducible refine (CK.out _ HB.out.gr).mono ?_); rintro e w1 ⟨rfl, g1⟩; have H1 := Lib.hid (HB.out.grow g1); clear g1))
    clear x0 x1 x2
    rw [if_neg (by simp)] at HR
    have hs1 := cell1 H1.out.hs
    obtain ⟨E, hE⟩ : ∃ E, apg none s = E := ⟨_, rfl⟩
    have I0 := Lib.hid (show AB A N c x Ws b0 b1 b2 w1 ∧ apg (prv L 0) (s.drop 0) = E from ⟨H1.out, by simpa [prv] using hE⟩)
    have HE := Lib.hid hE
    rw [hE] at HR
    clear H1 hE HB
    go_wp2
    go_loopw [19] (fun i V => ∃ k : Nat, k ≤ N ∧ i = .int .i64 k ∧ Hid (AB A N c x Ws b0 b1 b2 V ∧ apg (prv L k) (s.drop k) = E)) (fun i _ => N - (intOf i).toNat)
    case atStart => exact ⟨0, Nat.zero_le _, rfl, I0⟩
    case round =>
      clear I0 hs1
      obtain ⟨k, hk, rfl, HI⟩ := hrel
      have hs1 := cell1 HI.out.1.hs
      by_cases hlt : k < N
      · obtain ⟨y, hy⟩ : ∃ y, L[k]? = some y := ⟨_, List.getElem?_eq_getElem (by rw [HN.out]; exact hlt)⟩
        have ST0 := apg_step (o := prv L k) (s := s) (k := k) (p := y.er) (by rw [← HS.out, List.getElem?_map, hy]; rfl)
        rw [HI.out.2] at ST0
        have ST := Lib.hid (show E = if y.var < 0 ∨ 999999 < y.var then 2 else if ((prv L k).map fun m => decide (y.var ≤ m)) = some true then 10 else if ck y.ty.er ≠ 0 then ck y.ty.er else apg (some y.var) (s.drop (k + 1)) from ST0)
        obtain ⟨-, a, a1, rfl, ha, hab, d0, d1, d2, d3, hyr⟩ := asr_at (HL.out _ HI.out.1.gr) hy
        have HY := Lib.hid hy
        have CY := Lib.hid (fun V (g : Gr wr V) => check_any y.ty V (TRd.gr hyr g))
        unfold Ty.v at CY
        have G2 := Lib.hid (fun V (g : Gr wr V) => HI.out.1.grow g)
        obtain ⟨oy, hoy⟩ : ∃ o : Obj, o = .cells #[iv y.var, iv y.ty.kind, iv y.ty.var, .slice y.ty.A y.ty.sub.length y.ty.c] 43 (0, 0) := ⟨_, rfl⟩
        have GA := Lib.hid (show Gr wr (wr.alloc (.cells #[iv y.var, iv y.ty.kind, iv y.ty.var, .slice y.ty.A y.ty.sub.length y.ty.c] 43)) from gr_al _ _)
        have HA := Lib.hid (show (wr.alloc (.cells #[iv y.var, iv y.ty.kind, iv y.ty.var, .slice y.ty.A y.ty.sub.length y.ty.c] 43)).heap[wr.heap.size]? = some (.cells #[iv y.var, iv y.ty.kind, iv y.ty.var, .slice y.ty.A y.ty.sub.length y.ty.c] 43 (0, 0)) from al_new _ _)
        clear hy hyr hoy oy ST0
        go_upto_region 7 with (fail)
        generalize hW2 : World.alloc wr _ = W2 at *
        clear hW2
        obtain ⟨b8, hb8⟩ : ∃ b, wr.heap.size = b := ⟨_, rfl⟩
        have HA := Lib.hid (show W2.heap[b8]? = some (.cells #[iv y.var, iv y.ty.kind, iv y.ty.var, .slice y.ty.A y.ty.sub.length y.ty.c] 43 (0, 0)) from by rw [← hb8]; exact HA.out)
        rw [hb8]
        obtain ⟨y0, y1, y2, y3⟩ := cell4 HA.out
        have H2 := Lib.hid (G2.out _ GA.out)
        obtain ⟨⟨z0, z1, z2⟩, fz⟩ := cell3 H2.out.hz
        have f0 := fz 0
        have f1 := fz 1
        have f2 := fz 2
        have s2 := cell1 H2.out.hs
        clear d0 d1 d2 d3 hs1 hb8 fz
        have hlo := HI.out.1.lo
        by_cases h1 : y.var < 0
        · obtain rfl : 2 = E := by have := ST.out; rw [if_pos (.inl h1)] at this; exact this.symm
          obtain rfl : (.mk 0 0 [], 2) = R := by have := HR.out; rw [if_pos (by decide)] at this; exact this.symm
          clear HR ST
          go_wp2
          refine bodyPost_ret (results_row_tmp (P := Try.prog) rfl _ _ b2 _ _ _ _ rfl rfl (set3 H2.out.hz) rfl rfl rfl) rfl ?_
          exact (app_bad 2 H2.out.gr hlo).low GW.out
        · by_cases h2 : 999999 < y.var
          · obtain rfl : 2 = E := by have := ST.out; rw [if_pos (.inr h2)] at this; exact this.symm
            obtain rfl : (.mk 0 0 [], 2) = R := by have := HR.out; rw [if_pos (by decide)] at this; exact this.symm
            clear HR ST
            go_wp2
            refine bodyPost_ret (results_row_tmp (P := Try.prog) rfl _ _ b2 _ _ _ _ rfl rfl (set3 H2.out.hz) rfl rfl rfl) rfl ?_
            exact (app_bad 2 H2.out.gr hlo).low GW.out
          · have ST := Lib.hid (show E = if ((prv L k).map fun m => decide (y.var ≤ m)) = some true then 10 else if ck y.ty.er ≠ 0 then ck y.ty.er else apg (some y.var) (s.drop (k + 1)) from by have := ST.out; rw [if_neg (by omega)] at this; exact this)
            go_upto_region 9 with (fail)
            clear h1 h2
            obtain ⟨ob, hob⟩ : ∃ ob, decide (((prv L k).map fun m => decide (y.var ≤ m)) = some true) = ob := ⟨_, rfl⟩
            have HOB := Lib.hid hob
            clear hob
            go_cut [45] (fun s V => s = .bool ob ∧ Hid (Gr W2 V))
            case first =>
              by_cases hk0 : k = 0
              · have HO2 := Lib.hid (show false = ob from by rw [← HOB.out, hk0]; exact (decide_eq_false (by simp [prv])).symm)
                have hk1 : ¬ 0 < k := by omega
                clear hk0
                go_quiet (fail)
                go_wp2
                go_meet
                exact ⟨congrArg Value.bool HO2.out, Lib.hid (gr_drewN _ _)⟩
              · obtain ⟨p, hp⟩ : ∃ p, L[k - 1]? = some p := ⟨_, List.getElem?_eq_getElem (by rw [HN.out]; omega)⟩
                obtain ⟨-, a', ap, e', hap, -, p0, -, -, -, -⟩ := asr_at (HL.out _ H2.out.gr) hp
                obtain rfl : a = a' := Option.some.inj e'
                have HPV := Lib.hid (show prv L k = some p.var from by
                  obtain ⟨k', rfl⟩ : ∃ k', k = k' + 1 := ⟨k - 1, by omega⟩
                  show (L[k']?).map _ = _
                  rw [show k' + 1 - 1 = k' from rfl] at hp
                  rw [hp]; rfl)
                have hkp : 0 < k := by omega
                have w1 : 0 ≤ (k : Int) - 1 := by omega
                have w2 : (k : Int) - 1 < N := by omega
                have w3 : IntKind.i64.wrap ((k : Int) - 1) = (k : Int) - 1 := IntWalk.i64_in _ (by omega)
                have w4 : ((k : Int) - 1).toNat = k - 1 := by omega
                clear hp hk0
                by_cases hle : y.var ≤ p.var
                · have HO2 := Lib.hid (show true = ob from by rw [← HOB.out, HPV.out]; simp [hle])
                  go_quiet (fail)
                  go_wp2
                  go_meet
                  exact ⟨congrArg Value.bool HO2.out, Lib.hid (gr_drewN _ _)⟩
                · have HO2 := Lib.hid (show false = ob from by rw [← HOB.out, HPV.out]; simp [hle])
                  go_quiet (fail)
                  go_wp2
                  go_meet
                  exact ⟨congrArg Value.bool HO2.out, Lib.hid (gr_drewN _ _)⟩
            case rest =>
              obtain ⟨rfl, GC⟩ := hcut
              generalize hwc : wc = W3 at *
              clear hwc z0 z1 z2 f0 f1 f2 s2 y0 y1 y2 y3
              have H3 := Lib.hid (H2.out.grow GC.out)
              have HA3 := Lib.hid (gr_h GC.out HA.out)
              obtain ⟨y0, y1, y2, y3⟩ := cell4 HA3.out
              obtain ⟨⟨z0, z1, z2⟩, fz⟩ := cell3 H3.out.hz
              have f0 := fz 0
              have f1 := fz 1
              have f2 := fz 2
              clear fz
              cases ob with
              | true =>
                obtain rfl : 10 = E := by have := ST.out; rw [if_pos (of_decide_eq_true HOB.out)] at this; exact this.symm
                obtain rfl : (.mk 0 0 [], 10) = R := by have := HR.out; rw [if_pos (by decide)] at this; exact this.symm
                clear HR ST
                go_wp2
                refine bodyPost_ret (results_row_tmp (P := Try.prog) rfl _ _ b2 _ _ _ _ rfl rfl (set3 H3.out.hz) rfl rfl rfl) rfl ?_
                exact (app_bad 10 H3.out.gr hlo).low GW.out
              | false =>
                have ST := Lib.hid (show E = if ck y.ty.er ≠ 0 then ck y.ty.er else apg (some y.var) (s.drop (k + 1)) from by have := ST.out; rw [if_neg (of_decide_eq_false HOB.out)] at this; exact this)
                obtain ⟨qy, hqy⟩ : ∃ q, ck y.ty.er = q := ⟨_, rfl⟩
                simp only [hqy] at CY ST
                clear hqy HOB
                by_cases hy0 : qy = 0
                · subst hy0
                  have ST := Lib.hid (show apg (prv L (k + 1)) (s.drop (k + 1)) = E from by have := ST.out; rw [if_neg (by simp)] at this; rw [this]; show apg ((L[k]?).map (·.var)) _ = _; rw [HY.out]; rfl)
                  go_wp2_with (first | (go_at_call 17; (with_reducible refine (CY.out _ (GA.out.trans GC.out)).mono ?_); rintro e w5 ⟨rfl, g5⟩; have G5 := Lib.hid g5; clear g5))
                  exact ⟨⟨k + 1, hlt, by simp, Lib.hid ⟨H3.out.grow G5.out, ST.out⟩⟩, by simp [intOf]; omega⟩
                · have hb : (qy == 0) = false := by simpa using hy0
                  have hb2 : (qy != 0) = true := by simpa using hy0
                  obtain rfl : qy = E := by have := ST.out; rw [if_pos hy0] at this; exact this.symm
                  obtain rfl : (.mk 0 0 [], qy) = R := by have := HR.out; rw [if_pos hy0] at this; exact this.symm
                  clear HR ST
                  go_wp2_with (first | (go_at_call 17; (with_reducible refine (CY.out _ (GA.out.trans GC.out)).mono ?_); rintro e w5 ⟨rfl, g5⟩; have H5 := Lib.hid (H3.out.grow g5); clear z0 z1 z2 f0 f1 f2; obtain ⟨⟨z0, z1, z2⟩, fz⟩ := cell3 H5.out.hz; have f0 := fz 0; have f1 := fz 1; have f2 := fz 2; clear g5 fz))
                  refine bodyPost_ret (results_row_tmp (P := Try.prog) rfl _ _ b2 _ _ _ _ rfl rfl (set3 H5.out.hz) rfl rfl rfl) rfl ?_
                  exact (app_bad qy H5.out.gr hlo).low GW.out
      · obtain rfl : k = N := by omega
        have hE0 : E = 0 := by
          have h := HI.out.2
          rw [List.drop_of_length_le (by rw [← HS.out, List.length_map, HN.out]; exact Nat.le_refl _)] at h
          simpa [apg] using h.symm
        subst hE0
        rw [if_neg (by simp)] at HR
        have hva := (apg_va s none HE.out).1
        have hck := ck_cke HQ.out
        have hrp := rep_bsfn hva hck.1
        rw [hrp] at CA
        have C58 := Lib.hid (CA.out wr HI.out.1.gr (by have := hck.2; omega))
        obtain ⟨t, ht⟩ : ∃ t, x.er.rep (apf s) = t := ⟨_, rfl⟩
        rw [ht] at C58 HR
        obtain ⟨qr, hqr⟩ : ∃ q, ck t = q := ⟨_, rfl⟩
        rw [hqr] at HR
        have HQR := Lib.hid hqr
        rw [hb00.out] at C58
        obtain ⟨⟨x0, x1, x2⟩, -⟩ := cell3 HI.out.1.ht
        have hlo := HI.out.1.lo
        have hb2 : b2 < wr.heap.size := heap_lt HI.out.1.hz
        have HLO := Lib.hid hlo
        clear hrp ht hqr hva hck CA HE HB hs1
        by_cases hq0 : qr = 0
        · subst hq0
          obtain rfl : (t, 0) = R := by have := HR.out; rw [if_neg (by simp)] at this; exact this.symm
          clear HR
          go_upto_region 16 with (first | (go_at_call 58; (with_reducible refine C58.out.mono ?_); rintro e w5 ⟨⟨r, rfl, Y, rfl, tr⟩, g5⟩; unfold Ty.v; have T5 := Lib.hid tr; have H5 := Lib.hid ((HI.out.1.grow g5).grow (gr_al w5 (.cells #[iv Y.kind, iv Y.var, .slice Y.A Y.sub.length Y.c] 24))); have HA := Lib.hid (al_new w5 (.cells #[iv Y.kind, iv Y.var, .slice Y.A Y.sub.length Y.c] 24)); have GA := Lib.hid (gr_al w5 (.cells #[iv Y.kind, iv Y.var, .slice Y.A Y.sub.length Y.c] 24)); have G5 := Lib.hid g5; have CY := Lib.hid (fun V (g : Gr w5 V) => show Calls Try.prog 17 #[.agg #[iv Y.kind, iv Y.var, .slice Y.A Y.sub.length Y.c]] V (fun e w' => e = .returned (iv 0) ∧ Gr V w') from by have h := check_any Y V (TRd.gr tr.1 g); rw [tr.2.2, HQR.out] at h; exact h); clear tr g5))
          generalize hW6 : World.alloc w5 _ = W6 at *
          clear hW6
          obtain ⟨b10, hb10⟩ : ∃ b, w5.heap.size = b := ⟨_, rfl⟩
          have HA := Lib.hid (show W6.heap[b10]? = some (.cells #[iv Y.kind, iv Y.var, .slice Y.A Y.sub.length Y.c] 24 (0, 0)) from by rw [← hb10]; exact HA.out)
          rw [hb10]
          clear hb10 x0 x1 x2
          obtain ⟨⟨y0, y1, y2⟩, -⟩ := cell3 HA.out
          go_wp2_with (first | (go_at_call 17; (with_reducible refine (CY.out _ GA.out).mono ?_); rintro e w7 ⟨rfl, g7⟩; have H7 := Lib.hid (H5.out.grow g7); have G7 := Lib.hid (GA.out.trans g7); obtain ⟨⟨v0, v1, v2⟩, -⟩ := cell3 (gr_h g7 HA.out); obtain ⟨⟨z0, z1, z2⟩, fz⟩ := cell3 H7.out.hz; have f0 := fz 0; have f1 := fz 1; have f2 := fz 2; clear g7 fz))
          refine bodyPost_ret (results_row_tmp (P := Try.prog) rfl _ _ b2 _ _ _ _ rfl rfl (set3 (a' := iv Y.kind) (b' := iv Y.var) (c' := .slice Y.A Y.sub.length Y.c) H7.out.hz) rfl rfl rfl) rfl ?_
          refine ApP.low ⟨Y, rfl, ?_, T5.out.2.2, ?_⟩ GW.out
          · refine TRd.keepAt (TRd.gr T5.out.1 G7.out) T5.out.2.1 (by simp [World.setCell]) fun j hj _ => ?_
            have hne : j ≠ b2 := by have := SW.out; omega
            exact ((Below.heap_setCell _ _ _ _ hne).trans (Below.heap_setCell _ _ _ _ hne)).trans (Below.heap_setCell _ _ _ _ hne)
          · exact gr_cell (gr_cell (gr_cell H7.out.gr hlo _) hlo _) hlo _
        · have hb : (qr == 0) = false := by simpa using hq0
          have hb2' : (qr != 0) = true := by simpa using hq0
          obtain rfl : (.mk 0 0 [], 4) = R := by have := HR.out; rw [if_pos hq0] at this; exact this.symm
          clear HR
          go_upto_region 16 with (first | (go_at_call 58; (with_reducible refine C58.out.mono ?_); rintro e w5 ⟨⟨r, rfl, Y, rfl, tr⟩, g5⟩; unfold Ty.v; have T5 := Lib.hid tr; have H5 := Lib.hid ((HI.out.1.grow g5).grow (gr_al w5 (.cells #[iv Y.kind, iv Y.var, .slice Y.A Y.sub.length Y.c] 24))); have HA := Lib.hid (al_new w5 (.cells #[iv Y.kind, iv Y.var, .slice Y.A Y.sub.length Y.c] 24)); have GA := Lib.hid (gr_al w5 (.cells #[iv Y.kind, iv Y.var, .slice Y.A Y.sub.length Y.c] 24)); have G5 := Lib.hid g5; have CY := Lib.hid (fun V (g : Gr w5 V) => show Calls Try.prog 17 #[.agg #[iv Y.kind, iv Y.var, .slice Y.A Y.sub.length Y.c]] V (fun e w' => e = .returned (iv qr) ∧ Gr V w') from by have h := check_any Y V (TRd.gr tr.1 g); rw [tr.2.2, HQR.out] at h; exact h); clear tr g5))
          generalize hW6 : World.alloc w5 _ = W6 at *
          clear hW6
          obtain ⟨b10, hb10⟩ : ∃ b, w5.heap.size = b := ⟨_, rfl⟩
          have HA := Lib.hid (show W6.heap[b10]? = some (.cells #[iv Y.kind, iv Y.var, .slice Y.A Y.sub.length Y.c] 24 (0, 0)) from by rw [← hb10]; exact HA.out)
          rw [hb10]
          clear hb10 x0 x1 x2
          obtain ⟨⟨y0, y1, y2⟩, -⟩ := cell3 HA.out
          go_wp2_with (first | (go_at_call 17; (with_reducible refine (CY.out _ GA.out).mono ?_); rintro e w7 ⟨rfl, g7⟩; have H7 := Lib.hid (H5.out.grow g7); have G7 := Lib.hid (GA.out.trans g7); obtain ⟨⟨v0, v1, v2⟩, -⟩ := cell3 (gr_h g7 HA.out); obtain ⟨⟨z0, z1, z2⟩, fz⟩ := cell3 H7.out.hz; have f0 := fz 0; have f1 := fz 1; have f2 := fz 2; clear g7 fz))
          refine bodyPost_ret (results_row_tmp (P := Try.prog) rfl _ _ b2 _ _ _ _ rfl rfl (set3 H7.out.hz) rfl rfl rfl) rfl ?_
          exact (app_bad 4 H7.out.gr hlo).low GW.out
  · have hb : (q == 0) = false := by simpa using hq0
    have hb2 : (q != 0) = true := by simpa using hq0
    obtain rfl : (.mk 0 0 [], q) = R := by have := HR.out; rw [if_pos hq0] at this; exact this.symm
    have hlo := HB.out.lo
    go_wp2_with (first | (go_at_call 17; (with_reducible refine (CK.out _ HB.out.gr).mono ?_); rintro e w1 ⟨rfl, g1⟩; have H1 := Lib.hid (HB.out.grow g1); obtain ⟨⟨z0, z1, z2⟩, fz⟩ := cell3 H1.out.hz; have f0 := fz 0; have f1 := fz 1; have f2 := fz 2; clear g1 fz))
    refine bodyPost_ret (results_row_tmp (P := Try.prog) rfl _ _ b2 _ _ _ _ rfl rfl (set3 H1.out.hz) rfl rfl rfl) rfl ?_
    exact (app_bad q H1.out.gr hlo).low GW.out
end Go.Proofs.Ytjlmhfdigoogfaa
