/- Walks: Parse (37). -/
import Derived.Test.YtjlmhfdigoogfaaTxF
import Derived.Test.YtjlmhfdigoogfaaMoU
import Derived.Defers
import Derived.Recover
namespace Go.Proofs.Ytjlmhfdigoogfaa
open Go.RowKit

theorem results_row_cell {P : Program} {fn : Func} {p q : Tmp} {ty tq : TypeId} {x : Value} (h : fn.results = #[.cell p ty, .cell q tq]) (tmps : Array Value) (w : World) (g : Nat) (t : TypeId) (cs : Array Value) (fr : Nat × Nat) (d : TypeDesc)
    (hp : tmps.getD p undef = .pointer (some ⟨g, 0, none⟩)) (a : Addr) (hq : tmps.getD q undef = .pointer (some a)) (hx : (loadVar tq a).run P w = .ok x w) (hg : w.heap[g]? = some (.cells cs t fr))
    (hu : P.underlying ty = some d) (hd : (match d with | .struct _ | .array _ _ => true | _ => false) = true) (hi : (P.info? ty).map (·.size) = some cs.size) :
    (results fn tmps).run P w = .ok (.tuple #[.agg cs, x]) w := by
  have hp' : tmps[p]?.getD undef = .pointer (some ⟨g, 0, none⟩) := by simpa using hp
  have hq' : tmps[q]?.getD undef = .pointer (some a) := by simpa using hq
  simp [results, h, hp', hq', asAddr, hx, run_loadVar_row w g t ty cs fr d hg hu hd hi]
theorem load28 {w : World} {a : Addr} {v : Value} (h : w.cell? a = some v) : (loadVar 28 a).run Try.prog w = .ok v w := by
  simp [go_sem, h]
theorem catch_idle (B0 B1 : Addr) (w : World) :
    CallsD Try.prog 75 #[.pointer (some B0), .pointer (some B1)] .returning w fun e u' w' => e = .returned (.tuple #[]) ∧ u' = .returning ∧ w' = w := by
  refine callsD_of_wpS Try.func75 rfl fun c₀ cs hu => ?_
  apply wpS_seq
  apply wpS_region
  simp [wpOpsS, go_sem, recoverD, hu, Try.ntmps75, Exit.thenS]
  apply wpS_seq
  apply wpS_region
  simp [wpOpsS, go_sem, Exit.thenS]
  refine wpS_cond (t := false) (by simp [Act.eval, Array.replicate]) ?_
  simp only [Bool.false_eq_true, if_false]
  refine wpS_of_wp (wp_skip ?_)
  cases c₀
  simp_all [bodyPostS, results, Try.results75]
theorem catch_fault (b0 b1 : Nat) (w : World) (h0 : w.heap[b0]? = some (.cells #[iv 0, iv 0, iv 0, .slice none 0 0] 47 (0, 0))) (h1 : w.heap[b1]? = some (.cells #[iv 0] 28 (0, 0))) (hne : b1 ≠ b0) :
    CallsD Try.prog 75 #[.pointer (some ⟨b0, 0, none⟩), .pointer (some ⟨b1, 0, none⟩)] (.panicking gup) w fun e u' w' => e = .returned (.tuple #[]) ∧ u' = .panicking [{ v := .iface 121 (.agg #[]), recovered := true }] ∧
      w' = (((((w.setCell ⟨b0, 0, none⟩ (iv 0)).setCell ⟨b0, 1, none⟩ (iv 0)).setCell ⟨b0, 2, none⟩ (iv 0)).setCell ⟨b0, 3, none⟩ (.slice none 0 0)).setCell ⟨b1, 0, none⟩ (iv 3)) := by
  obtain ⟨z0, z1, z2, z3⟩ := cell4 h0
  have f0 := frz h0
  have y0 := cell1 h1
  have g0 := frz h1
  unfold gup
  refine callsD_of_wpS Try.func75 rfl fun c₀ cs hu => ?_
  apply wpS_seq
  apply wpS_region
  simp [wpOpsS, go_sem, recoverD, hu, Try.ntmps75, Exit.thenS]
  apply wpS_seq
  apply wpS_region
  simp [wpOpsS, go_sem, Exit.thenS]
  refine wpS_cond (t := true) (by simp [Act.eval, Array.replicate]) ?_
  simp only [if_true]
  apply wpS_region
  simp [wpOpsS, go_sem, z0, z1, z2, z3, f0, y0, g0, bodyPostS, results, Try.results75]
/-- What Parse answers. -/
def psE (s : T) : (Int × PT) × Int := match rd (s.length + 1) s with
  | some (t, []) => if sval (clN t) t = true then ((clN t, t), 0) else ((0, .mk 0 0 []), 3)
  | _ => ((0, .mk 0 0 []), 3)
/-- The boxes of the results. -/
structure PB (w V : World) : Prop where
  gr : Gr w V
  h2 : V.heap[w.heap.size]? = some (.cells #[iv 0, iv 0, iv 0, .slice none 0 0] 47 (0, 0))
  h3 : V.heap[w.heap.size + 1]? = some (.cells #[iv 0] 28 (0, 0))
theorem PB.grow {w V V' : World} (h : PB w V) (g : Gr V V') : PB w V' := ⟨h.gr.trans g, gr_h g h.h2, gr_h g h.h3⟩
theorem PB.rp {w V V' : World} (h : PB w V) (g : V.grownBy V' (some (w.heap.size + 2))) : PB w V' :=
  ⟨gr_own h.gr (by omega) g, (g.block _ (heap_lt h.h2) (by simp)).trans h.h2, (g.block _ (heap_lt h.h3) (by simp)).trans h.h3⟩
theorem PB.first (w : World) (s : T) : PB w (((w.alloc (.cells #[iv 0, iv 0, iv 0, .slice none 0 0] 47)).alloc (.cells #[iv 0] 28)).alloc (.cells #[tv s, iv 0] 106)) :=
  ⟨(gr_al _ _).trans ((gr_al _ _).trans (gr_al _ _)), gr_h ((gr_al _ _).trans (gr_al _ _)) (al_new _ _), gr_h (gr_al _ _) (al_at _ _ (by simp))⟩
set_option maxRecDepth 100000 in
set_option maxHeartbeats 1000000 in
theorem parse_bad (s : T) (w : World) (hn : rdm 0 (rd (s.length + 1) s) = none) : Calls Try.prog 37 #[tv s] w (SEP w ((0, .mk 0 0 []), 3)) := by
  have hmf : ∀ (fn : Fn) (first cap : Array Value) (w : World), (Instr.makeFunc fn first cap).run Try.prog w = .ok (.func fn first cap) w := fun _ _ _ _ => rfl
  have HB := Lib.hid (PB.first w s)
  have CH := Lib.hid ((readType_any (w.heap.size + 2) (s.length + 1) s 0 _ (Nat.lt_succ_self _) (al_at ((w.alloc (.cells #[iv 0, iv 0, iv 0, .slice none 0 0] 47)).alloc (.cells #[iv 0] 28)) (.cells #[tv s, iv 0] 106) (by simp)) (by omega) (by omega)).mono fun e w' k => (rtp_both k).2 hn)
  clear hn
  go_enter_defers Try.func37, Try.ntmps37
  go_wp2_with ((first | (go_at_call 76; refine CH.out.mono ?_; rintro e w1 ⟨rfl, g⟩; have H1 := Lib.hid (HB.out.rp g); clear g)))
  simp only [bodyPostD]
  refine leaves_cons (f := 75) (args := #[.pointer (some ⟨w.heap.size, 0, none⟩), .pointer (some ⟨w.heap.size + 1, 0, none⟩)]) (by simp) (by simp [go_sem]) ?_
  refine (catch_fault _ _ w1 H1.out.h2 H1.out.h3 (by omega)).mono ?_
  rintro e u' w2 ⟨rfl, rfl, rfl⟩
  have k2 : ∀ {V : World} {k k' : Nat} {u : Value}, V.heap[k]? = some (.cells #[iv 0, iv 0, iv 0, .slice none 0 0] 47 (0, 0)) → k ≠ k' → (((((V.setCell ⟨k, 0, none⟩ (iv 0)).setCell ⟨k, 1, none⟩ (iv 0)).setCell ⟨k, 2, none⟩ (iv 0)).setCell ⟨k, 3, none⟩ (.slice none 0 0)).setCell ⟨k', 0, none⟩ u).heap[k]? = some (.cells #[iv 0, iv 0, iv 0, .slice none 0 0] 47 (0, 0)) := fun h hk => h_other (set4 h _ _ _ _) hk _
  have k3 : ∀ {V : World} {k k' : Nat} {u : Value}, V.heap[k']? = some (.cells #[iv 0] 28 (0, 0)) → k' ≠ k → (((((V.setCell ⟨k, 0, none⟩ (iv 0)).setCell ⟨k, 1, none⟩ (iv 0)).setCell ⟨k, 2, none⟩ (iv 0)).setCell ⟨k, 3, none⟩ (.slice none 0 0)).setCell ⟨k', 0, none⟩ u).heap[k']? = some (.cells #[u] 28 (0, 0)) := fun h hk => set_same ((set4o hk _ _ _ _).trans h)
  refine ⟨_, results_row_cell (P := Try.prog) rfl _ _ (w.heap.size) _ _ _ _ rfl _ rfl (load28 (cell1 (k3 H1.out.h3 (by omega)))) (k2 H1.out.h2 (by omega)) rfl rfl rfl, ?_⟩
  exact ⟨yk 0 0, rfl, TRd.nil _, yk_er 0 0, gr_cell (set4g H1.out.gr (Nat.le_refl _) _ _ _ _) (Nat.le_succ _) _⟩
attribute [local irreducible] Calls in
set_option maxRecDepth 100000 in
set_option maxHeartbeats 4000000 in
theorem parse_ok (s : T) (w : World) (t : PT) (r : T) (hn : rdm 0 (rd (s.length + 1) s) = some (t, r)) : Calls Try.prog 37 #[tv s] w (SEP w (if r = [] then (if sval (clN t) t = true then ((clN t, t), 0) else ((0, .mk 0 0 []), 3)) else ((0, .mk 0 0 []), 3))) := by
  have hmf : ∀ (fn : Fn) (first cap : Array Value) (w : World), (Instr.makeFunc fn first cap).run Try.prog w = .ok (.func fn first cap) w := fun _ _ _ _ => rfl
  have HB := Lib.hid (PB.first w s)
  have CH := Lib.hid ((readType_any (w.heap.size + 2) (s.length + 1) s 0 _ (Nat.lt_succ_self _) (al_at ((w.alloc (.cells #[iv 0, iv 0, iv 0, .slice none 0 0] 47)).alloc (.cells #[iv 0] 28)) (.cells #[tv s, iv 0] 106) (by simp)) (by omega) (by omega)).mono fun e w' k => (rtp_both k).1 t r hn)
  have SZ := Lib.hid (rdm_some hn).2
  clear hn
  generalize hR : (if r = [] then (if sval (clN t) t = true then ((clN t, t), 0) else ((0, .mk 0 0 []), 3)) else ((0, .mk 0 0 []), (3 : Int))) = R
  have HR := Lib.hid hR
  clear hR
  go_enter_defers Try.func37, Try.ntmps37
  go_upto_region 4 with ((first | (go_at_call 76; refine CH.out.mono ?_; rintro e w1 ⟨g, v, rfl, ⟨x, rfl, hx, hi, he⟩, h3⟩; unfold Ty.v; have H1 := Lib.hid ((HB.out.rp g).grow (gr_al w1 (.cells #[iv x.kind, iv x.var, .slice x.A x.sub.length x.c] 24))); have GG := Lib.hid g.size; have TX := Lib.hid (And.intro hx (And.intro hi he)); have RX := Lib.hid (gr_h (gr_al w1 (.cells #[iv x.kind, iv x.var, .slice x.A x.sub.length x.c] 24)) h3); have BX := Lib.hid (al_new w1 (.cells #[iv x.kind, iv x.var, .slice x.A x.sub.length x.c] 24)); have GX := Lib.hid (gr_al w1 (.cells #[iv x.kind, iv x.var, .slice x.A x.sub.length x.c] 24)); clear g hx hi he h3)))
  generalize hW5 : World.alloc w1 _ = W5 at *
  obtain ⟨b5, hb5⟩ : ∃ b, w1.heap.size = b := ⟨_, rfl⟩
  have BX := Lib.hid (show W5.heap[b5]? = some (.cells #[iv x.kind, iv x.var, .slice x.A x.sub.length x.c] 24) from by rw [← hb5]; exact BX.out)
  rw [hb5]
  have HB5 := Lib.hid hb5
  clear hW5 hb5
  have XR := Lib.hid (show x.Rd W5 from TRd.gr TX.out.1 GX.out)
  obtain ⟨N, hN⟩ : ∃ N, (sn [] t).length = N := ⟨_, rfl⟩
  have HN := Lib.hid (show clN t = (N : Int) from by unfold clN; rw [hN])
  have C56 := Lib.hid (fun V (g : Gr W5 V) => (order_any x V (TRd.gr XR.out g) (by rw [TX.out.2.2]; have := SZ.out; omega)).mono (fun e w' h => show (∃ A c, e = .returned (.slice A N c)) ∧ Gr V w' from by
    obtain ⟨⟨v, rfl, ho⟩, g⟩ := h
    rw [TX.out.2.2] at ho
    obtain ⟨A, c, rfl, -⟩ := ho.form NC_len
    exact ⟨⟨A, c, by rw [hN]⟩, g⟩))
  clear hN
  unfold Ty.v at C56
  have KS := Lib.hid (fun (V : World) (g : Gr W5 V) => (cell3 (gr_h g BX.out)).1)
  have hb5s := heap_lt BX.out
  go_region_held3 (fun V => V.cell? ⟨b5, 0, none⟩ = some (iv x.kind) ∧ V.cell? ⟨b5, 1, none⟩ = some (iv x.var) ∧ V.cell? ⟨b5, 2, none⟩ = some (.slice x.A x.sub.length x.c)) (first | with_reducible exact KS.out _ Z1.out | with_reducible exact KS.out _ (Z1.out.trans (gr_al _ _)) | with_reducible exact KS.out _ ((gr_al _ _).trans (gr_drew _)) | with_reducible exact KS.out _ (gr_drew _) | with_reducible exact KS.out _ (gr_refl _) | exact set4k (KS.out _ Z1.out) (by omega) _ _ _ _ | go_keep) (first | (go_at_call 56; (with_reducible refine (C56.out _ (gr_drew _)).mono ?_); rintro e z1 ⟨⟨A, c, rfl⟩, g⟩; have Z1 := Lib.hid ((gr_drew W5).trans g); clear g) | (go_at_call 56; (with_reducible refine (C56.out _ ((gr_al _ _).trans (gr_drew _))).mono ?_); rintro e z1 ⟨⟨A, c, rfl⟩, g⟩; have Z1 := Lib.hid (((gr_al _ _).trans (gr_drew _)).trans g); have zz := Lib.hid (gr_h g (show ((W5.alloc (.cells #[iv 0, iv 0, iv 0, .slice none 0 0] 47)).drew).heap[W5.heap.size]? = some (.cells #[iv 0, iv 0, iv 0, .slice none 0 0] 47 (0, 0)) from al_new W5 _)); obtain ⟨zc0, zc1, zc2, zc3⟩ := cell4 zz.out; have zf := frz zz.out; clear g))
  all_goals go_upto_region 5 with (fail)
  · have GU := Lib.hid (Z1.out.trans (gr_al z1 (.cells #[iv N, iv x.kind, iv x.var, .slice x.A x.sub.length x.c] 47)))
    have S6 := Lib.hid (al_new z1 (.cells #[iv N, iv x.kind, iv x.var, .slice x.A x.sub.length x.c] 47))
    generalize hU : World.alloc z1 _ = U at *
    clear hU
    have hb6s : W5.heap.size ≤ z1.heap.size := Z1.out.size
    generalize z1.heap.size = b6 at *
    have P6 := Lib.hid (H1.out.grow GU.out)
    have R6 := Lib.hid (gr_h GU.out RX.out)
    have X6 := Lib.hid (And.intro (TRd.gr XR.out GU.out) TX.out.2)
    have LW := Lib.hid (show w.heap.size + 2 < w1.heap.size from by have := GG.out; simp at this; omega)
    have VX := Lib.hid (valid_any ⟨(N : Int), x⟩ U X6.out.1)
    simp only [X6.out.2.2, Sc.v] at VX
    clear Z1 KS C56 H1 RX BX HB5 XR HB CH hb5s
    obtain ⟨x0, x1, x2, x3⟩ := cell4 S6.out
    obtain ⟨z0, z1, z2, z3⟩ := cell4 P6.out.h2
    have zf := frz P6.out.h2
    have e0 := cell1 P6.out.h3
    have ef := frz P6.out.h3
    obtain ⟨⟨q0, -⟩, -⟩ := rs_cells R6.out
    cases r with
    | cons ch q =>
      rw [if_neg (by simp)] at HR
      have HR2 := HR.out
      subst HR2
      clear HR
      go_wp2
      simp only [bodyPostD]
      refine leaves_cons (f := 75) (args := #[.pointer (some ⟨w.heap.size, 0, none⟩), .pointer (some ⟨w.heap.size + 1, 0, none⟩)]) (by simp) (by simp [go_sem]) ?_
      refine (catch_idle _ _ _).mono ?_
      rintro e u' w9 ⟨rfl, rfl, rfl⟩
      refine ⟨_, results_row_cell (P := Try.prog) rfl _ _ (w.heap.size) _ _ _ _ rfl _ rfl (load28 (cell1 (set_same ((set4o (by omega) _ _ _ _).trans P6.out.h3)))) (h_other (set4 P6.out.h2 _ _ _ _) (by omega) _) rfl rfl rfl, ?_⟩
      exact ⟨yk 0 0, rfl, TRd.nil _, yk_er 0 0, gr_cell (set4g P6.out.gr (Nat.le_refl _) _ _ _ _) (Nat.le_succ _) _⟩
    | nil =>
      rw [if_pos rfl] at HR
      rw [← HN.out] at VX
      obtain ⟨sv, hsv⟩ : ∃ b, sval (clN t) t = b := ⟨_, rfl⟩
      rw [hsv] at VX HR
      rw [HN.out] at VX HR
      clear hsv
      have K9 := fun (V : World) (g : Gr U V) => P6.out.grow g
      cases sv with
      | false =>
        have HR2 : ((0, .mk 0 0 []), (3 : Int)) = R := HR.out
        subst HR2
        clear HR
        go_wp2_with ((first | (go_at_call 66; refine VX.out.mono ?_; rintro e w7 ⟨rfl, g⟩; have PP := Lib.hid (P6.out.grow g); clear x0 x1 x2 x3 z0 z1 z2 z3 zf e0 ef; obtain ⟨x0, x1, x2, x3⟩ := cell4 (gr_h g S6.out); obtain ⟨z0, z1, z2, z3⟩ := cell4 PP.out.h2; have zf := frz PP.out.h2; have e0 := cell1 PP.out.h3; have ef := frz PP.out.h3; clear g)))
        simp only [bodyPostD]
        refine leaves_cons (f := 75) (args := #[.pointer (some ⟨w.heap.size, 0, none⟩), .pointer (some ⟨w.heap.size + 1, 0, none⟩)]) (by simp) (by simp [go_sem]) ?_
        refine (catch_idle _ _ _).mono ?_
        rintro e u' w9 ⟨rfl, rfl, rfl⟩
        refine ⟨_, results_row_cell (P := Try.prog) rfl _ _ (w.heap.size) _ _ _ _ rfl _ rfl (load28 (cell1 (set_same ((set4o (by omega) _ _ _ _).trans PP.out.h3)))) (h_other (set4 PP.out.h2 _ _ _ _) (by omega) _) rfl rfl rfl, ?_⟩
        exact ⟨yk 0 0, rfl, TRd.nil _, yk_er 0 0, gr_cell (set4g PP.out.gr (Nat.le_refl _) _ _ _ _) (Nat.le_succ _) _⟩
      | true =>
        have HR2 : (((N : Int), t), (0 : Int)) = R := HR.out
        subst HR2
        clear HR
        go_wp2_with ((first | (go_at_call 66; refine VX.out.mono ?_; rintro e w7 ⟨rfl, g⟩; have PP := Lib.hid (P6.out.grow g); clear x0 x1 x2 x3 z0 z1 z2 z3 zf e0 ef; obtain ⟨x0, x1, x2, x3⟩ := cell4 (gr_h g S6.out); obtain ⟨z0, z1, z2, z3⟩ := cell4 PP.out.h2; have zf := frz PP.out.h2; have e0 := cell1 PP.out.h3; have ef := frz PP.out.h3; have X7 := Lib.hid (TRd.gr X6.out.1 g); clear g)))
        simp only [bodyPostD]
        refine leaves_cons (f := 75) (args := #[.pointer (some ⟨w.heap.size, 0, none⟩), .pointer (some ⟨w.heap.size + 1, 0, none⟩)]) (by simp) (by simp [go_sem]) ?_
        refine (catch_idle _ _ _).mono ?_
        rintro e u' w9 ⟨rfl, rfl, rfl⟩
        refine ⟨_, results_row_cell (P := Try.prog) rfl _ _ (w.heap.size) _ _ _ _ rfl _ rfl (load28 (cell1 (set_same ((set4o (by omega) _ _ _ _).trans PP.out.h3)))) (h_other (set4 PP.out.h2 _ _ _ _) (by omega) _) rfl rfl rfl, ?_⟩
        have hM := LW.out
        refine ⟨x, rfl, ?_, X6.out.2.2, gr_cell (set4g PP.out.gr (Nat.le_refl _) _ _ _ _) (Nat.le_succ _) _⟩
        exact ((((((KP.cell (b := w.heap.size) (by simp; omega) _).trans (KP.cell (by simp; omega) _)).trans (KP.cell (by simp; omega) _)).trans (KP.cell (by simp; omega) _)).trans (KP.cell (by simp) _)).rd X7.out X6.out.2.1)
  · have GU := Lib.hid (set4g Z1.out (Nat.le_refl _) (iv N) (iv x.kind) (iv x.var) (.slice x.A x.sub.length x.c))
    have S6 := Lib.hid (set4 zz.out (iv N) (iv x.kind) (iv x.var) (.slice x.A x.sub.length x.c))
    generalize hU : (((z1.setCell ⟨W5.heap.size, 0, none⟩ _).setCell ⟨W5.heap.size, 1, none⟩ _).setCell ⟨W5.heap.size, 2, none⟩ _).setCell ⟨W5.heap.size, 3, none⟩ _ = U at *
    clear hU zc0 zc1 zc2 zc3 zf zz
    have hb6s : W5.heap.size ≤ W5.heap.size := Nat.le_refl _
    generalize W5.heap.size = b6 at *
    have P6 := Lib.hid (H1.out.grow GU.out)
    have R6 := Lib.hid (gr_h GU.out RX.out)
    have X6 := Lib.hid (And.intro (TRd.gr XR.out GU.out) TX.out.2)
    have LW := Lib.hid (show w.heap.size + 2 < w1.heap.size from by have := GG.out; simp at this; omega)
    have VX := Lib.hid (valid_any ⟨(N : Int), x⟩ U X6.out.1)
    simp only [X6.out.2.2, Sc.v] at VX
    clear Z1 KS C56 H1 RX BX HB5 XR HB CH hb5s
    obtain ⟨x0, x1, x2, x3⟩ := cell4 S6.out
    obtain ⟨z0, z1, z2, z3⟩ := cell4 P6.out.h2
    have zf := frz P6.out.h2
    have e0 := cell1 P6.out.h3
    have ef := frz P6.out.h3
    obtain ⟨⟨q0, -⟩, -⟩ := rs_cells R6.out
    cases r with
    | cons ch q =>
      rw [if_neg (by simp)] at HR
      have HR2 := HR.out
      subst HR2
      clear HR
      go_wp2
      simp only [bodyPostD]
      refine leaves_cons (f := 75) (args := #[.pointer (some ⟨w.heap.size, 0, none⟩), .pointer (some ⟨w.heap.size + 1, 0, none⟩)]) (by simp) (by simp [go_sem]) ?_
      refine (catch_idle _ _ _).mono ?_
      rintro e u' w9 ⟨rfl, rfl, rfl⟩
      refine ⟨_, results_row_cell (P := Try.prog) rfl _ _ (w.heap.size) _ _ _ _ rfl _ rfl (load28 (cell1 (set_same ((set4o (by omega) _ _ _ _).trans P6.out.h3)))) (h_other (set4 P6.out.h2 _ _ _ _) (by omega) _) rfl rfl rfl, ?_⟩
      exact ⟨yk 0 0, rfl, TRd.nil _, yk_er 0 0, gr_cell (set4g P6.out.gr (Nat.le_refl _) _ _ _ _) (Nat.le_succ _) _⟩
    | nil =>
      rw [if_pos rfl] at HR
      rw [← HN.out] at VX
      obtain ⟨sv, hsv⟩ : ∃ b, sval (clN t) t = b := ⟨_, rfl⟩
      rw [hsv] at VX HR
      rw [HN.out] at VX HR
      clear hsv
      have K9 := fun (V : World) (g : Gr U V) => P6.out.grow g
      cases sv with
      | false =>
        have HR2 : ((0, .mk 0 0 []), (3 : Int)) = R := HR.out
        subst HR2
        clear HR
        go_wp2_with ((first | (go_at_call 66; refine VX.out.mono ?_; rintro e w7 ⟨rfl, g⟩; have PP := Lib.hid (P6.out.grow g); clear x0 x1 x2 x3 z0 z1 z2 z3 zf e0 ef; obtain ⟨x0, x1, x2, x3⟩ := cell4 (gr_h g S6.out); obtain ⟨z0, z1, z2, z3⟩ := cell4 PP.out.h2; have zf := frz PP.out.h2; have e0 := cell1 PP.out.h3; have ef := frz PP.out.h3; clear g)))
        simp only [bodyPostD]
        refine leaves_cons (f := 75) (args := #[.pointer (some ⟨w.heap.size, 0, none⟩), .pointer (some ⟨w.heap.size + 1, 0, none⟩)]) (by simp) (by simp [go_sem]) ?_
        refine (catch_idle _ _ _).mono ?_
        rintro e u' w9 ⟨rfl, rfl, rfl⟩
        refine ⟨_, results_row_cell (P := Try.prog) rfl _ _ (w.heap.size) _ _ _ _ rfl _ rfl (load28 (cell1 (set_same ((set4o (by omega) _ _ _ _).trans PP.out.h3)))) (h_other (set4 PP.out.h2 _ _ _ _) (by omega) _) rfl rfl rfl, ?_⟩
        exact ⟨yk 0 0, rfl, TRd.nil _, yk_er 0 0, gr_cell (set4g PP.out.gr (Nat.le_refl _) _ _ _ _) (Nat.le_succ _) _⟩
      | true =>
        have HR2 : (((N : Int), t), (0 : Int)) = R := HR.out
        subst HR2
        clear HR
        go_wp2_with ((first | (go_at_call 66; refine VX.out.mono ?_; rintro e w7 ⟨rfl, g⟩; have PP := Lib.hid (P6.out.grow g); clear x0 x1 x2 x3 z0 z1 z2 z3 zf e0 ef; obtain ⟨x0, x1, x2, x3⟩ := cell4 (gr_h g S6.out); obtain ⟨z0, z1, z2, z3⟩ := cell4 PP.out.h2; have zf := frz PP.out.h2; have e0 := cell1 PP.out.h3; have ef := frz PP.out.h3; have X7 := Lib.hid (TRd.gr X6.out.1 g); clear g)))
        simp only [bodyPostD]
        refine leaves_cons (f := 75) (args := #[.pointer (some ⟨w.heap.size, 0, none⟩), .pointer (some ⟨w.heap.size + 1, 0, none⟩)]) (by simp) (by simp [go_sem]) ?_
        refine (catch_idle _ _ _).mono ?_
        rintro e u' w9 ⟨rfl, rfl, rfl⟩
        refine ⟨_, results_row_cell (P := Try.prog) rfl _ _ (w.heap.size) _ _ _ _ rfl _ rfl (load28 (cell1 (set_same ((set4o (by omega) _ _ _ _).trans PP.out.h3)))) (h_other (set4 PP.out.h2 _ _ _ _) (by omega) _) rfl rfl rfl, ?_⟩
        have hM := LW.out
        refine ⟨x, rfl, ?_, X6.out.2.2, gr_cell (set4g PP.out.gr (Nat.le_refl _) _ _ _ _) (Nat.le_succ _) _⟩
        exact ((((((KP.cell (b := w.heap.size) (by simp; omega) _).trans (KP.cell (by simp; omega) _)).trans (KP.cell (by simp; omega) _)).trans (KP.cell (by simp; omega) _)).trans (KP.cell (by simp) _)).rd X7.out X6.out.2.1)
theorem parse_any (s : T) (w : World) : Calls Try.prog 37 #[tv s] w (SEP w (psE s)) := by
  cases hn : rdm 0 (rd (s.length + 1) s) with
  | none =>
    have h : psE s = ((0, .mk 0 0 []), 3) := by
      unfold psE
      split
      · rename_i t e
        rw [if_neg]
        intro hv
        rw [e] at hn
        have h2 := (ck_cke (sval_ck hv)).2
        rw [rdm_ok (by omega)] at hn
        cases hn
      · rfl
    rw [h]
    exact parse_bad s w hn
  | some p =>
    obtain ⟨t, r⟩ := p
    have h := parse_ok s w t r hn
    have e := (rdm_some hn).1
    unfold psE
    rw [e]
    cases r with
    | nil => simpa using h
    | cons a q => simpa using h
end Go.Proofs.Ytjlmhfdigoogfaa
