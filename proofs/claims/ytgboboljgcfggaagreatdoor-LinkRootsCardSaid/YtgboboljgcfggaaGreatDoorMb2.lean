/- Walks and words: RunM, RunN, RunO, RunP, RunQ, RunR, RunS, RunU, RunV, RunW, RunX, RunY, RunZ, Rms, RunAh, RunAi, RunAj. -/
import Derived.Test.YtgboboljgcfggaaGreatDoorMb1
import Derived.ArgAppend
import Derived.LaidEql
namespace Go.Proofs.YtgboboljgcfggaaGreatDoor
open Go.RowKit
theorem rb_cell {b : Bl} {p : Prg} {w : World} {sv fv : Value} {steps seed err : Int} {done : Bool} (h : RB b p w sv fv steps seed done err) : w.cell? ⟨b.rb, 2, none⟩ = some sv ∧ w.cell? ⟨b.rb, 3, none⟩ = some fv ∧ w.cell? ⟨b.rb, 4, none⟩ = some (iv steps) ∧ w.cell? ⟨b.rb, 5, none⟩ = some (.int .u64 seed) ∧ w.cell? ⟨b.rb, 6, none⟩ = some (.bool done) ∧ w.cell? ⟨b.rb, 7, none⟩ = some (iv err) ∧ w.cell? ⟨b.rb, 8, none⟩ = some (.map (some b.eb)) ∧ w.cell? ⟨b.rb, 9, none⟩ = some (.map (some b.mb)) ∧ w.cell? ⟨b.rb, 0, none⟩ = some (.slice p.bA p.bs.length p.bc) := by
  refine ⟨?_, ?_, ?_, ?_, ?_, ?_, ?_, ?_, ?_⟩ <;> rw [h.c] <;> rfl
set_option maxRecDepth 100000 in
set_option maxHeartbeats 1000000 in
theorem ret_flt (b : Bl) (p : Prg) (op xa xb : Int) (name : T) (w : World) (g : Gh) (steps seed err : Int) (hm : Mem b w g) (hR : RB b p w g.sv g.fv steps seed false err) (hS : g.S = []) :
    Calls Tryz.prog 135 #[.pointer (some ⟨b.rb, 0, none⟩), .agg #[iv op, iv xa, iv xb, tv name]] w (EffP b p w g (.error 26) steps err) := by
  have : ∃ A c, g.sv = .slice A 0 c := by
    rcases hm.sform with ⟨h, _⟩ | ⟨gg, c, e, _⟩
    · exact ⟨_, _, h⟩
    · rw [hS] at e; exact ⟨_, _, e⟩
  obtain ⟨A, c, e⟩ := this
  have c2 := (rb_cell hR).1
  rw [e] at c2
  have d2 := fun o => cell_al c2 hR.lt o
  have fin : ∀ o, EffP b p w g (.error 26) steps err (.panicked (stopC 26)) (w.alloc o) := fun o => EffP.flt (w1 := w) (grown_weak (World.grownBy.refl w none) _) ⟨rfl, grown_alloc w o _, _, _, _, hR.alloc o⟩
  have FIN := Lib.hid fin
  have FA := Lib.hid (fun W => fault_any 26 W)
  clear fin hm hR hS e
  go_enter Tryz.func135, Tryz.ntmps135
  go_wp2_with (go_at_call 105; refine (FA.out _).mono ?_; rintro e w1 ⟨rfl, rfl⟩)
  exact ⟨rfl, FIN.out _⟩
set_option maxRecDepth 100000 in
set_option maxHeartbeats 1000000 in
theorem ret_nil (b : Bl) (p : Prg) (op xa xb : Int) (name : T) (w : World) (g : Gh) (G : List Fr) (f : Fr) (steps seed err : Int) (hm : Mem b w g) (hR : RB b p w g.sv g.fv steps seed false err) (hF : g.F = G ++ [f]) (hn : g.F.length ≤ 1000000) (hS : g.S ≠ []) (hG : G = []) :
    Calls Tryz.prog 135 #[.pointer (some ⟨b.rb, 0, none⟩), .agg #[iv op, iv xa, iv xb, tv name]] w (EffP b p w g (.ok ⟨ers g.S, G.map Fr.er, seed, true⟩) steps err) := by
  obtain ⟨fb, c, ft, ht⟩ := hm.isTop hF
  have hl : g.F.length = G.length + 1 := by rw [hF]; simp
  have hc : g.F.length ≤ c := by
    rcases hm.fform with ⟨_, h⟩ | ⟨fb', c', hv, hnc, _⟩
    · rw [h] at hl; simp at hl
    · rw [ht.hv] at hv; cases hv; exact hnc
  obtain ⟨sA, sn, sc, hsv, hsn⟩ : ∃ A n c, g.sv = .slice A n c ∧ 0 < n := by
    rcases hm.sform with ⟨_, h⟩ | ⟨gg, c, e, _⟩
    · exact absurd h hS
    · refine ⟨_, _, _, e, ?_⟩
      rcases Nat.lt_or_ge 0 g.S.length with h | h
      · exact h
      · exact absurd (List.eq_nil_of_length_eq_zero (by omega)) hS
  have hRo := hR.alloc (.cells #[iv op, iv xa, iv xb, tv name] 71)
  have d2 := (rb_cell hRo).1
  have d3 := (rb_cell hRo).2.1
  rw [hsv] at d2
  rw [ht.hv, hl] at d3
  have f3 := hRo.f 3
  obtain ⟨W1, hW1⟩ : ∃ W1, W1 = ((w.alloc (.cells #[iv op, iv xa, iv xb, tv name] 71)).setCell ⟨b.rb, 3, none⟩ (.slice (some ⟨fb, 0, none⟩) G.length c)).drew := ⟨_, rfl⟩
  have r1 : RB b p W1 g.sv (.slice (some ⟨fb, 0, none⟩) G.length c) steps seed false err := by rw [hW1]; exact RB.s_fv hRo (.slice (some ⟨fb, 0, none⟩) G.length c)
  have w3 := (rb_cell r1).2.1
  have w6 := (rb_cell r1).2.2.2.2.1
  have wf := fun j => r1.f j
  have g1 : w.grownBy W1 (some b.rb) := by rw [hW1]; exact ((grown_alloc w _ _).trans (grown_setR _ _ _)).trans (grown_drewN _ 1 _)
  have m1 := hm.cutF hF ht.hv
  rw [hl, Nat.add_sub_cancel] at m1
  have m2 := m1.only g1 hR
  have fin : EffP b p w g (.ok ⟨ers g.S, G.map Fr.er, seed, true⟩) steps err (.returned (.tuple #[])) (W1.setCell ⟨b.rb, 6, none⟩ (.bool true)) := EffP.mk (m2.only (grown_setR b.rb 6 _) r1) ((Ch.only hm (g1.trans (grown_setR b.rb 6 _))).retag rfl) (r1.s_done true) rfl rfl
  have FIN := Lib.hid fin
  have HW1 := Lib.hid hW1
  have hgl : G.length = 0 := by rw [hG]; rfl
  rw [hl] at hc hn
  clear fin hm hR hS hsv hF hl ht r1 g1 m1 m2 hW1 hRo
  generalize G.length = N at *
  subst hgl
  have t8 : ((sn : Int) == 0) = false := by simp; omega
  go_enter Tryz.func135, Tryz.ntmps135
  go_wp2
  refine wp_phaseT [false, false, false, false, false, false, false, false, false, false, false, false, false, false, false, false, false, true] [[], [17]] [Value.pointer (some ⟨b.rb, 0, none⟩), Value.pointer (some ⟨b.rb, 0, none⟩), Value.pointer (some ⟨b.rb, 0, none⟩), Value.pointer (some ⟨b.rb, 0, none⟩), Value.pointer (some ⟨b.rb, 3, none⟩), .slice (some ⟨fb, 0, none⟩) (0 + 1) c, Value.pointer (some ⟨b.rb, 0, none⟩), Value.pointer (some ⟨b.rb, 0, none⟩), Value.pointer (some ⟨b.rb, 0, none⟩), Value.pointer (some ⟨b.rb, 3, none⟩), .slice (some ⟨fb, 0, none⟩) (0 + 1) c, .int .i64 ((0 + 1 : Nat) : Int), .int .i64 (((0 + 1 : Nat) : Int) - 1), .slice (some ⟨fb, 0, none⟩) 0 c, Value.pointer (some ⟨b.rb, 0, none⟩), Value.pointer (some ⟨b.rb, 0, none⟩), Value.pointer (some ⟨b.rb, 3, none⟩), undef] [_, W1] 1 18 (by decide) (by kernel_rfl) (by kernel_rfl) (by kernel_rfl) (by kernel_rfl) rfl (by kernel_rfl) (fun h => absurd h (by decide)) (fun h => absurd h (by decide)) rfl rfl ⟨?_, ?_, ?_, ?_, ?_, ?_, ?_, ?_, ?_, ?_, ?_, ?_, ?_, ?_, ?_, ?_, ?_, ?_, trivial⟩ rfl (by kernel_rfl) ?_
  · intro kk aa hk E
    have h0 : aa.eval (.tmp 0) = Value.pointer (some ⟨b.rb, 0, none⟩) := (E 0 (by kernel_rfl)).trans (by kernel_rfl)
    exact obl_pure (by kernel_rfl) rfl hk fun w => op_move rfl rfl h0
  · intro kk aa hk E
    have h0 : aa.eval (.tmp 0) = Value.pointer (some ⟨b.rb, 0, none⟩) := (E 0 (by kernel_rfl)).trans (by kernel_rfl)
    exact obl_pure (by kernel_rfl) rfl hk fun w => op_move rfl rfl h0
  · intro kk aa hk E
    have h13 : aa.eval (.tmp 13) = Value.pointer (some ⟨b.rb, 0, none⟩) := (E 13 (by kernel_rfl)).trans (by kernel_rfl)
    exact obl_pure (by kernel_rfl) rfl hk fun w => op_nil rfl rfl h13
  · intro kk aa hk E
    have h14 : aa.eval (.tmp 14) = Value.pointer (some ⟨b.rb, 0, none⟩) := (E 14 (by kernel_rfl)).trans (by kernel_rfl)
    exact obl_pure (by kernel_rfl) rfl hk fun w => op_fa (k := 0) rfl rfl rfl h14
  · intro kk aa hk E
    have h15 : aa.eval (.tmp 15) = Value.pointer (some ⟨b.rb, 0, none⟩) := (E 15 (by kernel_rfl)).trans (by kernel_rfl)
    exact obl_pure (by kernel_rfl) rfl hk fun w => op_fa (k := 3) rfl rfl rfl h15
  · intro kk aa hk E
    have h16 : aa.eval (.tmp 16) = Value.pointer (some ⟨b.rb, 3, none⟩) := (E 16 (by kernel_rfl)).trans (by kernel_rfl)
    refine obl_read (ks := [0]) (by kernel_rfl) (by kernel_rfl) rfl hk ⟨?_, trivial⟩
    · intro w' hw; cases hw; exact op_load1M rfl (by decide) rfl h16 d3
  · intro kk aa hk E
    have h0 : aa.eval (.tmp 0) = Value.pointer (some ⟨b.rb, 0, none⟩) := (E 0 (by kernel_rfl)).trans (by kernel_rfl)
    exact obl_pure (by kernel_rfl) rfl hk fun w => op_move rfl rfl h0
  · intro kk aa hk E
    have h18 : aa.eval (.tmp 18) = Value.pointer (some ⟨b.rb, 0, none⟩) := (E 18 (by kernel_rfl)).trans (by kernel_rfl)
    exact obl_pure (by kernel_rfl) rfl hk fun w => op_nil rfl rfl h18
  · intro kk aa hk E
    have h19 : aa.eval (.tmp 19) = Value.pointer (some ⟨b.rb, 0, none⟩) := (E 19 (by kernel_rfl)).trans (by kernel_rfl)
    exact obl_pure (by kernel_rfl) rfl hk fun w => op_fa (k := 0) rfl rfl rfl h19
  · intro kk aa hk E
    have h20 : aa.eval (.tmp 20) = Value.pointer (some ⟨b.rb, 0, none⟩) := (E 20 (by kernel_rfl)).trans (by kernel_rfl)
    exact obl_pure (by kernel_rfl) rfl hk fun w => op_fa (k := 3) rfl rfl rfl h20
  · intro kk aa hk E
    have h21 : aa.eval (.tmp 21) = Value.pointer (some ⟨b.rb, 3, none⟩) := (E 21 (by kernel_rfl)).trans (by kernel_rfl)
    refine obl_read (ks := [0]) (by kernel_rfl) (by kernel_rfl) rfl hk ⟨?_, trivial⟩
    · intro w' hw; cases hw; exact op_load1M rfl (by decide) rfl h21 d3
  · intro kk aa hk E
    have h22 : aa.eval (.tmp 22) = .slice (some ⟨fb, 0, none⟩) (0 + 1) c := (E 22 (by kernel_rfl)).trans (by kernel_rfl)
    exact obl_pure (by kernel_rfl) rfl hk fun w => op_len rfl (by decide) rfl h22
  · intro kk aa hk E
    have h23 : aa.eval (.tmp 23) = .int .i64 ((0 + 1 : Nat) : Int) := (E 23 (by kernel_rfl)).trans (by kernel_rfl)
    exact obl_pure (by kernel_rfl) rfl hk fun w => op_sub1 rfl rfl h23 (by omega) (by omega)
  · intro kk aa hk E
    have h17 : aa.eval (.tmp 17) = .slice (some ⟨fb, 0, none⟩) (0 + 1) c := (E 17 (by kernel_rfl)).trans (by kernel_rfl)
    have h24 : aa.eval (.tmp 24) = .int .i64 (((0 + 1 : Nat) : Int) - 1) := (E 24 (by kernel_rfl)).trans (by kernel_rfl)
    exact obl_pure (by kernel_rfl) rfl hk fun w => op_head rfl (by decide) rfl h17 h24 (by omega) (by omega)
  · intro kk aa hk E
    have h12 : aa.eval (.tmp 12) = Value.pointer (some ⟨b.rb, 0, none⟩) := (E 12 (by kernel_rfl)).trans (by kernel_rfl)
    exact obl_pure (by kernel_rfl) rfl hk fun w => op_nil rfl rfl h12
  · intro kk aa hk E
    have h26 : aa.eval (.tmp 26) = Value.pointer (some ⟨b.rb, 0, none⟩) := (E 26 (by kernel_rfl)).trans (by kernel_rfl)
    exact obl_pure (by kernel_rfl) rfl hk fun w => op_fa (k := 0) rfl rfl rfl h26
  · intro kk aa hk E
    have h27 : aa.eval (.tmp 27) = Value.pointer (some ⟨b.rb, 0, none⟩) := (E 27 (by kernel_rfl)).trans (by kernel_rfl)
    exact obl_pure (by kernel_rfl) rfl hk fun w => op_fa (k := 3) rfl rfl rfl h27
  · intro kk aa hk E
    have h28 : aa.eval (.tmp 28) = Value.pointer (some ⟨b.rb, 3, none⟩) := (E 28 (by kernel_rfl)).trans (by kernel_rfl)
    have h25 : aa.eval (.tmp 25) = .slice (some ⟨fb, 0, none⟩) 0 c := (E 25 (by kernel_rfl)).trans (by kernel_rfl)
    exact obl_write (ks := [0]) (by kernel_rfl) (by kernel_rfl) hk ⟨⟨1, _, _, by kernel_rfl, rfl, rfl, op_store1w rfl (by decide) rfl h28 h25 d3 f3 (.inl ⟨_, _, _, rfl⟩) (by rw [HW1.out]; rfl)⟩, trivial⟩
  intro af haf
  simp only [List.take_succ_cons, List.take_zero, finA, Act.put, List.setIfInBounds_toArray, List.set_cons_succ, List.set_cons_zero] at haf
  subst haf
  simp only [List.drop_succ_cons, List.drop_zero]
  go_wp2
  exact bodyPost_ret (v := .tuple #[]) (results_none rfl _ _ _) rfl FIN.out
set_option maxRecDepth 100000 in
set_option maxHeartbeats 1000000 in
theorem ret_cons (b : Bl) (p : Prg) (op xa xb : Int) (name : T) (w : World) (g : Gh) (G : List Fr) (f : Fr) (steps seed err : Int) (hm : Mem b w g) (hR : RB b p w g.sv g.fv steps seed false err) (hF : g.F = G ++ [f]) (hn : g.F.length ≤ 1000000) (hS : g.S ≠ []) (hG : G ≠ []) :
    Calls Tryz.prog 135 #[.pointer (some ⟨b.rb, 0, none⟩), .agg #[iv op, iv xa, iv xb, tv name]] w (EffP b p w g (.ok ⟨ers g.S, G.map Fr.er, seed, false⟩) steps err) := by
  obtain ⟨fb, c, ft, ht⟩ := hm.isTop hF
  have hl : g.F.length = G.length + 1 := by rw [hF]; simp
  have hc : g.F.length ≤ c := by
    rcases hm.fform with ⟨_, h⟩ | ⟨fb', c', hv, hnc, _⟩
    · rw [h] at hl; simp at hl
    · rw [ht.hv] at hv; cases hv; exact hnc
  obtain ⟨sA, sn, sc, hsv, hsn⟩ : ∃ A n c, g.sv = .slice A n c ∧ 0 < n := by
    rcases hm.sform with ⟨_, h⟩ | ⟨gg, c, e, _⟩
    · exact absurd h hS
    · refine ⟨_, _, _, e, ?_⟩
      rcases Nat.lt_or_ge 0 g.S.length with h | h
      · exact h
      · exact absurd (List.eq_nil_of_length_eq_zero (by omega)) hS
  have hRo := hR.alloc (.cells #[iv op, iv xa, iv xb, tv name] 71)
  have d2 := (rb_cell hRo).1
  have d3 := (rb_cell hRo).2.1
  rw [hsv] at d2
  rw [ht.hv, hl] at d3
  have f3 := hRo.f 3
  obtain ⟨W1, hW1⟩ : ∃ W1, W1 = ((w.alloc (.cells #[iv op, iv xa, iv xb, tv name] 71)).setCell ⟨b.rb, 3, none⟩ (.slice (some ⟨fb, 0, none⟩) G.length c)).drew := ⟨_, rfl⟩
  have r1 : RB b p W1 g.sv (.slice (some ⟨fb, 0, none⟩) G.length c) steps seed false err := by rw [hW1]; exact RB.s_fv hRo (.slice (some ⟨fb, 0, none⟩) G.length c)
  have w3 := (rb_cell r1).2.1
  have w6 := (rb_cell r1).2.2.2.2.1
  have wf := fun j => r1.f j
  have g1 : w.grownBy W1 (some b.rb) := by rw [hW1]; exact ((grown_alloc w _ _).trans (grown_setR _ _ _)).trans (grown_drewN _ 1 _)
  have m1 := hm.cutF hF ht.hv
  rw [hl, Nat.add_sub_cancel] at m1
  have m2 := m1.only g1 hR
  have fin : EffP b p w g (.ok ⟨ers g.S, G.map Fr.er, seed, false⟩) steps err (.returned (.tuple #[])) W1 := EffP.mk m2 ((Ch.only hm g1).retag rfl) r1 rfl rfl
  have FIN := Lib.hid fin
  have HW1 := Lib.hid hW1
  have hgl : 0 < G.length := by exact List.length_pos_iff.2 hG
  rw [hl] at hc hn
  clear fin hm hR hS hsv hF hl ht r1 g1 m1 m2 hW1 hRo
  generalize G.length = N at *
  have t9 : ((N : Int) == 0) = false := by simp; omega
  have t8 : ((sn : Int) == 0) = false := by simp; omega
  go_enter Tryz.func135, Tryz.ntmps135
  go_wp2
  refine wp_phaseT [false, false, false, false, false, false, false, false, false, false, false, false, false, false, false, false, false, true] [[], [17]] [Value.pointer (some ⟨b.rb, 0, none⟩), Value.pointer (some ⟨b.rb, 0, none⟩), Value.pointer (some ⟨b.rb, 0, none⟩), Value.pointer (some ⟨b.rb, 0, none⟩), Value.pointer (some ⟨b.rb, 3, none⟩), .slice (some ⟨fb, 0, none⟩) (N + 1) c, Value.pointer (some ⟨b.rb, 0, none⟩), Value.pointer (some ⟨b.rb, 0, none⟩), Value.pointer (some ⟨b.rb, 0, none⟩), Value.pointer (some ⟨b.rb, 3, none⟩), .slice (some ⟨fb, 0, none⟩) (N + 1) c, .int .i64 ((N + 1 : Nat) : Int), .int .i64 (((N + 1 : Nat) : Int) - 1), .slice (some ⟨fb, 0, none⟩) N c, Value.pointer (some ⟨b.rb, 0, none⟩), Value.pointer (some ⟨b.rb, 0, none⟩), Value.pointer (some ⟨b.rb, 3, none⟩), undef] [_, W1] 1 18 (by decide) (by kernel_rfl) (by kernel_rfl) (by kernel_rfl) (by kernel_rfl) rfl (by kernel_rfl) (fun h => absurd h (by decide)) (fun h => absurd h (by decide)) rfl rfl ⟨?_, ?_, ?_, ?_, ?_, ?_, ?_, ?_, ?_, ?_, ?_, ?_, ?_, ?_, ?_, ?_, ?_, ?_, trivial⟩ rfl (by kernel_rfl) ?_
  · intro kk aa hk E
    have h0 : aa.eval (.tmp 0) = Value.pointer (some ⟨b.rb, 0, none⟩) := (E 0 (by kernel_rfl)).trans (by kernel_rfl)
    exact obl_pure (by kernel_rfl) rfl hk fun w => op_move rfl rfl h0
  · intro kk aa hk E
    have h0 : aa.eval (.tmp 0) = Value.pointer (some ⟨b.rb, 0, none⟩) := (E 0 (by kernel_rfl)).trans (by kernel_rfl)
    exact obl_pure (by kernel_rfl) rfl hk fun w => op_move rfl rfl h0
  · intro kk aa hk E
    have h13 : aa.eval (.tmp 13) = Value.pointer (some ⟨b.rb, 0, none⟩) := (E 13 (by kernel_rfl)).trans (by kernel_rfl)
    exact obl_pure (by kernel_rfl) rfl hk fun w => op_nil rfl rfl h13
  · intro kk aa hk E
    have h14 : aa.eval (.tmp 14) = Value.pointer (some ⟨b.rb, 0, none⟩) := (E 14 (by kernel_rfl)).trans (by kernel_rfl)
    exact obl_pure (by kernel_rfl) rfl hk fun w => op_fa (k := 0) rfl rfl rfl h14
  · intro kk aa hk E
    have h15 : aa.eval (.tmp 15) = Value.pointer (some ⟨b.rb, 0, none⟩) := (E 15 (by kernel_rfl)).trans (by kernel_rfl)
    exact obl_pure (by kernel_rfl) rfl hk fun w => op_fa (k := 3) rfl rfl rfl h15
  · intro kk aa hk E
    have h16 : aa.eval (.tmp 16) = Value.pointer (some ⟨b.rb, 3, none⟩) := (E 16 (by kernel_rfl)).trans (by kernel_rfl)
    refine obl_read (ks := [0]) (by kernel_rfl) (by kernel_rfl) rfl hk ⟨?_, trivial⟩
    · intro w' hw; cases hw; exact op_load1M rfl (by decide) rfl h16 d3
  · intro kk aa hk E
    have h0 : aa.eval (.tmp 0) = Value.pointer (some ⟨b.rb, 0, none⟩) := (E 0 (by kernel_rfl)).trans (by kernel_rfl)
    exact obl_pure (by kernel_rfl) rfl hk fun w => op_move rfl rfl h0
  · intro kk aa hk E
    have h18 : aa.eval (.tmp 18) = Value.pointer (some ⟨b.rb, 0, none⟩) := (E 18 (by kernel_rfl)).trans (by kernel_rfl)
    exact obl_pure (by kernel_rfl) rfl hk fun w => op_nil rfl rfl h18
  · intro kk aa hk E
    have h19 : aa.eval (.tmp 19) = Value.pointer (some ⟨b.rb, 0, none⟩) := (E 19 (by kernel_rfl)).trans (by kernel_rfl)
    exact obl_pure (by kernel_rfl) rfl hk fun w => op_fa (k := 0) rfl rfl rfl h19
  · intro kk aa hk E
    have h20 : aa.eval (.tmp 20) = Value.pointer (some ⟨b.rb, 0, none⟩) := (E 20 (by kernel_rfl)).trans (by kernel_rfl)
    exact obl_pure (by kernel_rfl) rfl hk fun w => op_fa (k := 3) rfl rfl rfl h20
  · intro kk aa hk E
    have h21 : aa.eval (.tmp 21) = Value.pointer (some ⟨b.rb, 3, none⟩) := (E 21 (by kernel_rfl)).trans (by kernel_rfl)
    refine obl_read (ks := [0]) (by kernel_rfl) (by kernel_rfl) rfl hk ⟨?_, trivial⟩
    · intro w' hw; cases hw; exact op_load1M rfl (by decide) rfl h21 d3
  · intro kk aa hk E
    have h22 : aa.eval (.tmp 22) = .slice (some ⟨fb, 0, none⟩) (N + 1) c := (E 22 (by kernel_rfl)).trans (by kernel_rfl)
    exact obl_pure (by kernel_rfl) rfl hk fun w => op_len rfl (by decide) rfl h22
  · intro kk aa hk E
    have h23 : aa.eval (.tmp 23) = .int .i64 ((N + 1 : Nat) : Int) := (E 23 (by kernel_rfl)).trans (by kernel_rfl)
    exact obl_pure (by kernel_rfl) rfl hk fun w => op_sub1 rfl rfl h23 (by omega) (by omega)
  · intro kk aa hk E
    have h17 : aa.eval (.tmp 17) = .slice (some ⟨fb, 0, none⟩) (N + 1) c := (E 17 (by kernel_rfl)).trans (by kernel_rfl)
    have h24 : aa.eval (.tmp 24) = .int .i64 (((N + 1 : Nat) : Int) - 1) := (E 24 (by kernel_rfl)).trans (by kernel_rfl)
    exact obl_pure (by kernel_rfl) rfl hk fun w => op_head rfl (by decide) rfl h17 h24 (by omega) (by omega)
  · intro kk aa hk E
    have h12 : aa.eval (.tmp 12) = Value.pointer (some ⟨b.rb, 0, none⟩) := (E 12 (by kernel_rfl)).trans (by kernel_rfl)
    exact obl_pure (by kernel_rfl) rfl hk fun w => op_nil rfl rfl h12
  · intro kk aa hk E
    have h26 : aa.eval (.tmp 26) = Value.pointer (some ⟨b.rb, 0, none⟩) := (E 26 (by kernel_rfl)).trans (by kernel_rfl)
    exact obl_pure (by kernel_rfl) rfl hk fun w => op_fa (k := 0) rfl rfl rfl h26
  · intro kk aa hk E
    have h27 : aa.eval (.tmp 27) = Value.pointer (some ⟨b.rb, 0, none⟩) := (E 27 (by kernel_rfl)).trans (by kernel_rfl)
    exact obl_pure (by kernel_rfl) rfl hk fun w => op_fa (k := 3) rfl rfl rfl h27
  · intro kk aa hk E
    have h28 : aa.eval (.tmp 28) = Value.pointer (some ⟨b.rb, 3, none⟩) := (E 28 (by kernel_rfl)).trans (by kernel_rfl)
    have h25 : aa.eval (.tmp 25) = .slice (some ⟨fb, 0, none⟩) N c := (E 25 (by kernel_rfl)).trans (by kernel_rfl)
    exact obl_write (ks := [0]) (by kernel_rfl) (by kernel_rfl) hk ⟨⟨1, _, _, by kernel_rfl, rfl, rfl, op_store1w rfl (by decide) rfl h28 h25 d3 f3 (.inl ⟨_, _, _, rfl⟩) (by rw [HW1.out]; rfl)⟩, trivial⟩
  intro af haf
  simp only [List.take_succ_cons, List.take_zero, finA, Act.put, List.setIfInBounds_toArray, List.set_cons_succ, List.set_cons_zero] at haf
  subst haf
  simp only [List.drop_succ_cons, List.drop_zero]
  go_wp2
  exact bodyPost_ret (v := .tuple #[]) (results_none rfl _ _ _) rfl FIN.out
end Go.Proofs.YtgboboljgcfggaaGreatDoor
namespace Go.Proofs.YtgboboljgcfggaaGreatDoor
open Go.RowKit
section
variable {o : Oper} {a : Act} {w : World}
theorem op_shr {x : Tmp} {s : Int} (hd : o.dst.isSome = true) (ho : o.op = .binOp .shr 42 (.tmp x) (.const (.int .u64 33)) 181) (h : a.eval (.tmp x) = .int .u64 s) : (execOp a.eval o).run Tryz.prog w = .ok (nx o (.int .u64 (s / 8589934592))) w := by
  rw [nx_some hd]
  unfold Act.eval at h
  obtain ⟨d, op, t, ps, af, gu⟩ := o
  simp only at ho
  subst ho
  go_simp
theorem op_conv {x : Tmp} {s : Int} (hd : o.dst.isSome = true) (ho : o.op = .convert 3 42 (.tmp x)) (h : a.eval (.tmp x) = .int .i64 s) : (execOp a.eval o).run Tryz.prog w = .ok (nx o (.int .u64 (u64 s))) w := by
  rw [nx_some hd]
  unfold Act.eval at h
  unfold u64
  obtain ⟨d, op, t, ps, af, gu⟩ := o
  simp only at ho
  subst ho
  go_simp
theorem op_rem {x y : Tmp} {s r : Int} (hd : o.dst.isSome = true) (ho : o.op = .binOp .rem 42 (.tmp x) (.tmp y) 42) (h : a.eval (.tmp x) = .int .u64 s) (h' : a.eval (.tmp y) = .int .u64 r) (hr : ¬ r = 0) : (execOp a.eval o).run Tryz.prog w = .ok (nx o (.int .u64 (s.tmod r))) w := by
  rw [nx_some hd]
  unfold Act.eval at h h'
  obtain ⟨d, op, t, ps, af, gu⟩ := o
  simp only at ho
  subst ho
  go_simp
theorem op_lss {x y : Tmp} {s r : Int} (hd : o.dst.isSome = true) (ho : o.op = .binOp .lss 42 (.tmp x) (.tmp y) 42) (h : a.eval (.tmp x) = .int .u64 s) (h' : a.eval (.tmp y) = .int .u64 r) : (execOp a.eval o).run Tryz.prog w = .ok (nx o (.bool (decide (s < r)))) w := by
  rw [nx_some hd]
  unfold Act.eval at h h'
  obtain ⟨d, op, t, ps, af, gu⟩ := o
  simp only at ho
  subst ho
  go_simp
end
theorem u64_pos {x : Int} (h1 : 1 ≤ x) (h2 : x ≤ 999999) : ¬ u64 x = 0 := by
  have : u64 x = x := by
    unfold u64 IntKind.wrap
    simp [IntKind.bits, IntKind.signed]
    omega
  rw [this]
  omega
set_option maxRecDepth 100000 in
set_option maxHeartbeats 1000000 in
theorem eff_chance (b : Bl) (p : Prg) (op xa xb : Int) (name : T) (w : World) (g : Gh) (steps seed err : Int) (hm : Mem b w g) (hR : RB b p w g.sv g.fv steps seed false err) (hn : g.S.length ≤ 1000000) (hb : 1 ≤ xb) (hb2 : xb ≤ 999999) :
    Calls Tryz.prog 147 #[.pointer (some ⟨b.rb, 0, none⟩), .agg #[iv op, iv xa, iv xb, tv name]] w (EffP b p w g (.ok ⟨ers g.S ++ [vBool (drawn (nextSeed seed) xa xb)], g.F.map Fr.er, nextSeed seed, false⟩) steps err) := by
  have hRo := hR.alloc (.cells #[iv op, iv xa, iv xb, tv name] 71)
  have c5 := (rb_cell hRo).2.2.2.1
  have f5 := hRo.f 5
  obtain ⟨W1, hW1⟩ : ∃ W1, W1 = (w.alloc (.cells #[iv op, iv xa, iv xb, tv name] 71)).setCell ⟨b.rb, 5, none⟩ (.int .u64 (nextSeed seed)) := ⟨_, rfl⟩
  have r1 : RB b p W1 g.sv g.fv steps (nextSeed seed) false err := by rw [hW1]; exact RB.s_seed hRo _
  have g1 : w.grownBy W1 (some b.rb) := by rw [hW1]; exact (grown_alloc w _ _).trans (grown_setR _ _ _)
  have m1 := hm.only g1 hR
  have w5 := (rb_cell r1).2.2.2.1
  have hlt := hR.lt
  have box : ∀ i, W1.cell? ⟨w.heap.size, i, none⟩ = (#[iv op, iv xa, iv xb, tv name] : Array Value)[i]? := fun i => by
    rw [hW1, World.cell?_of_block (w := w.alloc _) (Below.heap_setCell _ _ _ _ (by show w.heap.size ≠ b.rb; omega))]
    exact World.cell?_alloc_at _ _ _ _ rfl
  have C1 : ∀ k q, Calls Tryz.prog 159 #[.pointer (some ⟨b.rb, 0, none⟩), .bool q] (W1.drewN k) (EffP b p w g (.ok ⟨ers g.S ++ [vBool q], g.F.map Fr.er, nextSeed seed, false⟩) steps err) := fun k q => by
    refine (pushBool_any b p q (W1.drewN k) g steps (nextSeed seed) false err (m1.drewN k) r1 hn).mono ?_
    rintro e w2 ⟨_, w1, k1, k2⟩
    exact EffP.push k2 ((Ch.only hm g1).trans (Ch.grown ((grown_drewN _ k _).trans k1))) (by rw [AV.num_er]; cases q <;> rfl)
  have H1 := Lib.hid (C1 1 (drawn (nextSeed seed) xa xb))
  have HW := Lib.hid hW1.symm
  have b1 := box 1
  have b2 := box 2
  have hz := u64_pos hb hb2
  simp at b1 b2
  unfold nextSeed u64 at HW
  clear hm hR hn hRo r1 g1 m1 C1 hW1 hb hb2 hlt box
  go_enter Tryz.func147, Tryz.ntmps147
  go_wp2
  rw [HW.out]
  refine wp_phaseT [false, false, false, false, false, false, false, false, false, false, false, false, false, false, false] [[]] [Value.pointer (some ⟨b.rb, 0, none⟩), Value.pointer (some ⟨b.rb, 0, none⟩), Value.pointer (some ⟨b.rb, 0, none⟩), Value.pointer (some ⟨b.rb, 0, none⟩), Value.pointer (some ⟨b.rb, 5, none⟩), .int .u64 (nextSeed seed), .int .u64 (nextSeed seed / 8589934592), Value.pointer (some ⟨w.heap.size, 2, none⟩), iv xb, .int .u64 (u64 xb), .int .u64 ((nextSeed seed / 8589934592).tmod (u64 xb)), Value.pointer (some ⟨w.heap.size, 1, none⟩), iv xa, .int .u64 (u64 xa), .bool (drawn (nextSeed seed) xa xb)] [_] 0 15 (by decide) (by kernel_rfl) (by kernel_rfl) (by kernel_rfl) (by kernel_rfl) rfl (by kernel_rfl) (fun _ => by kernel_rfl) (fun _ => by kernel_rfl) rfl rfl ⟨?_, ?_, ?_, ?_, ?_, ?_, ?_, ?_, ?_, ?_, ?_, ?_, ?_, ?_, ?_, trivial⟩ rfl (by kernel_rfl) ?_
  · intro kk aa hk E
    have h0 : aa.eval (.tmp 0) = Value.pointer (some ⟨b.rb, 0, none⟩) := (E 0 (by kernel_rfl)).trans (by kernel_rfl)
    exact obl_pure (by kernel_rfl) rfl hk fun w => op_move rfl rfl h0
  · intro kk aa hk E
    have h0 : aa.eval (.tmp 0) = Value.pointer (some ⟨b.rb, 0, none⟩) := (E 0 (by kernel_rfl)).trans (by kernel_rfl)
    exact obl_pure (by kernel_rfl) rfl hk fun w => op_move rfl rfl h0
  · intro kk aa hk E
    have h16 : aa.eval (.tmp 16) = Value.pointer (some ⟨b.rb, 0, none⟩) := (E 16 (by kernel_rfl)).trans (by kernel_rfl)
    exact obl_pure (by kernel_rfl) rfl hk fun w => op_nil rfl rfl h16
  · intro kk aa hk E
    have h17 : aa.eval (.tmp 17) = Value.pointer (some ⟨b.rb, 0, none⟩) := (E 17 (by kernel_rfl)).trans (by kernel_rfl)
    exact obl_pure (by kernel_rfl) rfl hk fun w => op_fa (k := 0) rfl rfl rfl h17
  · intro kk aa hk E
    have h18 : aa.eval (.tmp 18) = Value.pointer (some ⟨b.rb, 0, none⟩) := (E 18 (by kernel_rfl)).trans (by kernel_rfl)
    exact obl_pure (by kernel_rfl) rfl hk fun w => op_fa (k := 5) rfl rfl rfl h18
  · intro kk aa hk E
    have h19 : aa.eval (.tmp 19) = Value.pointer (some ⟨b.rb, 5, none⟩) := (E 19 (by kernel_rfl)).trans (by kernel_rfl)
    refine obl_read (ks := [0]) (by kernel_rfl) (by kernel_rfl) rfl hk ⟨?_, trivial⟩
    · intro w' hw; cases hw; exact op_load1M rfl (by decide) rfl h19 w5
  · intro kk aa hk E
    have h20 : aa.eval (.tmp 20) = .int .u64 (nextSeed seed) := (E 20 (by kernel_rfl)).trans (by kernel_rfl)
    exact obl_pure (by kernel_rfl) rfl hk fun w => op_shr rfl rfl h20
  · intro kk aa hk E
    have h3 : aa.eval (.tmp 3) = Value.pointer (some ⟨w.heap.size, 0, none⟩) := (E 3 (by kernel_rfl)).trans (by kernel_rfl)
    exact obl_pure (by kernel_rfl) rfl hk fun w => op_fa (k := 2) rfl rfl rfl h3
  · intro kk aa hk E
    have h22 : aa.eval (.tmp 22) = Value.pointer (some ⟨w.heap.size, 2, none⟩) := (E 22 (by kernel_rfl)).trans (by kernel_rfl)
    refine obl_read (ks := [0]) (by kernel_rfl) (by kernel_rfl) rfl hk ⟨?_, trivial⟩
    · intro w' hw; cases hw; exact op_load1M rfl (by decide) rfl h22 b2
  · intro kk aa hk E
    have h23 : aa.eval (.tmp 23) = iv xb := (E 23 (by kernel_rfl)).trans (by kernel_rfl)
    exact obl_pure (by kernel_rfl) rfl hk fun w => op_conv rfl rfl h23
  · intro kk aa hk E
    have h21 : aa.eval (.tmp 21) = .int .u64 (nextSeed seed / 8589934592) := (E 21 (by kernel_rfl)).trans (by kernel_rfl)
    have h24 : aa.eval (.tmp 24) = .int .u64 (u64 xb) := (E 24 (by kernel_rfl)).trans (by kernel_rfl)
    exact obl_pure (by kernel_rfl) rfl hk fun w => op_rem rfl rfl h21 h24 hz
  · intro kk aa hk E
    have h3 : aa.eval (.tmp 3) = Value.pointer (some ⟨w.heap.size, 0, none⟩) := (E 3 (by kernel_rfl)).trans (by kernel_rfl)
    exact obl_pure (by kernel_rfl) rfl hk fun w => op_fa (k := 1) rfl rfl rfl h3
  · intro kk aa hk E
    have h26 : aa.eval (.tmp 26) = Value.pointer (some ⟨w.heap.size, 1, none⟩) := (E 26 (by kernel_rfl)).trans (by kernel_rfl)
    refine obl_read (ks := [0]) (by kernel_rfl) (by kernel_rfl) rfl hk ⟨?_, trivial⟩
    · intro w' hw; cases hw; exact op_load1M rfl (by decide) rfl h26 b1
  · intro kk aa hk E
    have h27 : aa.eval (.tmp 27) = iv xa := (E 27 (by kernel_rfl)).trans (by kernel_rfl)
    exact obl_pure (by kernel_rfl) rfl hk fun w => op_conv rfl rfl h27
  · intro kk aa hk E
    have h25 : aa.eval (.tmp 25) = .int .u64 ((nextSeed seed / 8589934592).tmod (u64 xb)) := (E 25 (by kernel_rfl)).trans (by kernel_rfl)
    have h28 : aa.eval (.tmp 28) = .int .u64 (u64 xa) := (E 28 (by kernel_rfl)).trans (by kernel_rfl)
    exact obl_pure (by kernel_rfl) rfl hk fun w => op_lss rfl rfl h25 h28
  intro af haf
  simp only [List.take_succ_cons, List.take_zero, finA, Act.put, List.setIfInBounds_toArray, List.set_cons_succ, List.set_cons_zero] at haf
  subst haf
  simp only [List.drop_succ_cons, List.drop_zero]
  go_wp2_with (go_at_call 159; refine H1.out.mono ?_; intro e w1 k1; obtain ⟨rfl, k2⟩ := id k1; have K1 := Lib.hid k1; clear k1 k2)
  exact bodyPost_ret (v := .tuple #[]) (results_none rfl _ _ _) rfl K1.out
end Go.Proofs.YtgboboljgcfggaaGreatDoor
namespace Go.Proofs.YtgboboljgcfggaaGreatDoor
open Go.RowKit
set_option maxRecDepth 100000 in
theorem clip_any (A : Option Addr) (n c : Nat) (w : World) (h : n ≤ c) (h0 : A = none → c = 0) : Calls Tryz.prog 102 #[.slice A n c] w fun e w' => e = .returned (.slice A n n) ∧ w' = w := by
  have t1 : (n : Int) ≤ c := by omega
  have t2 : (0 : Int) ≤ n := by omega
  cases A with
  | none =>
    have := h0 rfl
    obtain rfl : c = 0 := this
    obtain rfl : n = 0 := by omega
    go_enter Tryz.func102, Tryz.ntmps102
    go_wp2
    go_ret
    exact ⟨rfl, rfl⟩
  | some a =>
    go_enter Tryz.func102, Tryz.ntmps102
    go_wp2
    go_ret
    exact ⟨rfl, rfl⟩
theorem op_call55 {o : Oper} {a : Act} {w : World} {x : Tmp} {A : Option Addr} {n c : Nat} (ho : o.op = .call { callee := .value (.func 102), args := #[.tmp x], argTypes := #[47] }) (h : a.eval (.tmp x) = .slice A n c) (hn : n ≤ c) (h0 : A = none → c = 0) :
    ∃ f args, (execOp a.eval o).run Tryz.prog w = .ok (.enter f args) w ∧ Calls Tryz.prog f args w fun e w'' => e = .returned (.slice A n n) ∧ w'' = w := by
  refine ⟨102, #[.slice A n c], ?_, clip_any A n c w hn h0⟩
  unfold Act.eval at h
  obtain ⟨d, op, t, ps, af, gu⟩ := o
  simp only at ho
  subst ho
  go_simp
theorem op_fun {o : Oper} {a : Act} {w : World} {x y : Tmp} {A : Option Addr} {n c : Nat} {k : Int} (hd : o.dst.isSome = true) (ho : o.op = .build 56 #[(0, .const (.int .i64 4)), (3, .tmp x), (2, .tmp y)]) (h : a.eval (.tmp x) = .int .i64 k) (h' : a.eval (.tmp y) = .slice A n c) : (execOp a.eval o).run Tryz.prog w = .ok (nx o (.agg #[.int .i64 4, .int .i64 0, .slice A n c, .int .i64 k, .string ⟨#[]⟩, .string ⟨#[]⟩, .slice none 0 0, .slice none 0 0])) w := by
  rw [nx_some hd]
  have hc : ∀ v, a.eval (.const v) = v := fun _ => rfl
  generalize a.eval = ρ at h h' hc ⊢
  obtain ⟨d, op, t, ps, af, gu⟩ := o
  simp only at ho
  subst ho
  go_simp
theorem LRd.clip {B : Nat} {tag : Nat → Tag} {w : World} {A : Option Addr} {c : Nat} {L : List AV} (h : LRd B tag w A c L) : LRd B tag w A L.length L :=
  .mk (Nat.le_refl _) (Nat.le_trans h.hc h.hm) (fun e => by have := h.h0 e; have := h.hc; omega) h.hb h.he h.hx h.hr
theorem Mem.belowW {b : Bl} {w : World} {g : Gh} (h : Mem b w g) : Below b.w0.heap.size b.w0 w := ⟨h.os, h.tape, h.output, h.hs, h.old⟩
theorem top_pack {b : Bl} {p : Prg} {w : World} {g : Gh} {G : List Fr} {f : Fr} {steps seed err : Int} (hm : Mem b w g) (hR : RB b p w g.sv g.fv steps seed false err) (hF : g.F = G ++ [f]) (hn : g.F.length ≤ 1000000) : ∃ fb c ft, Top b w g f fb c ft ∧ b.rb ≠ fb ∧ ∀ o k, Calls Tryz.prog 106 #[.pointer (some ⟨b.rb, 0, none⟩)] ((w.alloc o).drewN k) fun e w' => e = .returned (.pointer (some ⟨fb, ft, none⟩)) ∧ ∃ k', w' = ((w.alloc o).drewN k).drewN k' := by
  obtain ⟨fb, c, ft, ht⟩ := hm.isTop hF
  obtain ⟨cur, hcur⟩ := ht.hcur
  have hl : g.F.length = G.length + 1 := by rw [hF]; simp
  refine ⟨fb, c, ft, ht, fb_ne hR hcur, fun o k => ?_⟩
  have := top_mem b p ((w.alloc o).drewN k) g steps seed false err fb c (hR.alloc o) ht.hv (by omega) hn
  rw [ht.hft]
  exact this
set_option maxRecDepth 100000 in
set_option maxHeartbeats 1000000 in
theorem clos_flt (b : Bl) (p : Prg) (op xb : Int) (j : Nat) (name : T) (w : World) (g : Gh) (G : List Fr) (f : Fr) (steps seed err : Int) (hm : Mem b w g) (hR : RB b p w g.sv g.fv steps seed false err) (hF : g.F = G ++ [f]) (hn : g.F.length ≤ 1000000) (hp : p.Rd b.w0) (hj : j < p.bs.length) (hc : ((f.L.length : Int) != p.bs[j].cap) = true) :
    Calls Tryz.prog 133 #[.pointer (some ⟨b.rb, 0, none⟩), .agg #[iv op, iv j, iv xb, tv name]] w (EffP b p w g (.error 26) steps err) := by
  obtain ⟨fb, c, ft, ht, hne, C1⟩ := top_pack hm hR hF hn
  have q2 := fun o => cell_al (ht.hc 2 (by omega)) ht.hlt o
  have q0 := fun o => (rb_cell (hR.alloc o)).2.2.2.2.2.2.2.2
  obtain ⟨a, a1, eA, ea, hab, p0, p1, p2⟩ := (hp.below hm.belowW).b.blk hj
  have z0 := fun o => cell_al p0 hab o
  have hok := (hm.top hF).l
  have hLc := hok.hc
  have hL0 := hok.h0
  rw [eA] at q0
  have fin : ∀ o k, EffP b p w g (.error 26) steps err (.panicked (stopC 26)) ((w.alloc o).drewN k) := fun o k => EffP.flt (w1 := w) (grown_weak (World.grownBy.refl w none) _) ⟨rfl, (grown_alloc w o _).trans (grown_drewN _ k _), _, _, _, hR.alloc o⟩
  have FIN := Lib.hid fin
  have FA := Lib.hid (fun W => fault_any 26 W)
  have H1 := Lib.hid C1
  have t1 : (j : Int) < (p.bs.length : Int) := by omega
  have t2 : (0 : Int) ≤ (j : Int) := by omega
  have t3 : ((j : Int)).toNat = j := by omega
  clear C1 hm hR hF hn ht hok p0 p1 p2 eA hne hp fin
  generalize p.bs[j].cap = CAP at *
  generalize p.bs.length = NB at *
  go_enter Tryz.func133, Tryz.ntmps133
  go_wp2_with (go_at_call 106; refine (H1.out _ 0).mono ?_; rintro e w1 ⟨rfl, k, rfl⟩)
  go_quiet (fail)
  go_wp2_with (go_at_call 105; refine (FA.out _).mono ?_; rintro e w1 ⟨rfl, rfl⟩)
  exact ⟨rfl, FIN.out _ _⟩
set_option maxRecDepth 100000 in
set_option maxHeartbeats 1000000 in
theorem clos_ok (b : Bl) (p : Prg) (op xb : Int) (j : Nat) (name : T) (w : World) (g : Gh) (G : List Fr) (f : Fr) (steps seed err : Int) (hm : Mem b w g) (hR : RB b p w g.sv g.fv steps seed false err) (hF : g.F = G ++ [f]) (hn : g.F.length ≤ 1000000) (hn2 : g.S.length ≤ 1000000) (hp : p.Rd b.w0) (hj : j < p.bs.length) (hc : (p.bs[j].cap == (f.L.length : Int)) = true) :
    Calls Tryz.prog 133 #[.pointer (some ⟨b.rb, 0, none⟩), .agg #[iv op, iv j, iv xb, tv name]] w (EffP b p w g (.ok ⟨ers g.S ++ [vFun j (ers f.L)], g.F.map Fr.er, seed, false⟩) steps err) := by
  obtain ⟨fb, c, ft, ht, hne, C1⟩ := top_pack hm hR hF hn
  have q2 := fun o => cell_al (ht.hc 2 (by omega)) ht.hlt o
  have q0 := fun o => (rb_cell (hR.alloc o)).2.2.2.2.2.2.2.2
  obtain ⟨a, a1, eA, ea, hab, p0, p1, p2⟩ := (hp.below hm.belowW).b.blk hj
  have z0 := fun o => cell_al p0 hab o
  have hok := (hm.top hF).l
  have hLc := hok.hc
  have hL0 := hok.h0
  rw [eA] at q0
  have C2 : ∀ o k, Calls Tryz.prog 128 #[.pointer (some ⟨b.rb, 0, none⟩), .agg #[.int .i64 4, .int .i64 0, .slice f.A f.L.length f.L.length, .int .i64 j, .string ⟨#[]⟩, .string ⟨#[]⟩, .slice none 0 0, .slice none 0 0]] ((w.alloc o).drewN k) (EffP b p w g (.ok ⟨ers g.S ++ [vFun j (ers f.L)], g.F.map Fr.er, seed, false⟩) steps err) := fun o k => by
    have m2 := (hm.alloc o).drewN k
    refine (push_any b p (.mk 4 0 f.A f.L.length j f.L) ((w.alloc o).drewN k) g steps seed false err m2 (hR.alloc o) (m2.top hF).l.clip hn2).mono fun e w' hp => ?_
    exact EffP.push hp (Ch.grown ((grown_alloc w o _).trans (grown_drewN _ k _))) (by simp [AV.er, vFun])
  have H2 := Lib.hid C2
  have t9 : ((f.L.length : Int) != p.bs[j].cap) = false := by simp at hc ⊢; omega
  have hc' := Lib.hid hc
  clear hc
  have H1 := Lib.hid C1
  have t1 : (j : Int) < (p.bs.length : Int) := by omega
  have t2 : (0 : Int) ≤ (j : Int) := by omega
  have t3 : ((j : Int)).toNat = j := by omega
  clear C1 hm hR hF hn ht hok p0 p1 p2 eA hne hp C2 hn2
  generalize p.bs[j].cap = CAP at *
  generalize p.bs.length = NB at *
  go_enter Tryz.func133, Tryz.ntmps133
  go_wp2_with (go_at_call 106; refine (H1.out _ 0).mono ?_; rintro e w1 ⟨rfl, k, rfl⟩)
  go_quiet (fail)
  go_wp2
  refine wp_phaseT [false, false, false, false, false, false, false, false, false] [[]] [Value.pointer (some ⟨b.rb, 0, none⟩), Value.pointer (some ⟨w.heap.size, 1, none⟩), iv j, Value.pointer (some ⟨fb, ft, none⟩), Value.pointer (some ⟨fb, ft, none⟩), Value.pointer (some ⟨fb, ft + 2, none⟩), .slice f.A f.L.length f.c, .slice f.A f.L.length f.L.length, .agg #[.int .i64 4, .int .i64 0, .slice f.A f.L.length f.L.length, .int .i64 j, .string ⟨#[]⟩, .string ⟨#[]⟩, .slice none 0 0, .slice none 0 0]] [_] 0 9 (by decide) (by kernel_rfl) (by kernel_rfl) (by kernel_rfl) (by kernel_rfl) rfl (by kernel_rfl) (fun _ => by kernel_rfl) (fun _ => by kernel_rfl) rfl rfl ⟨?_, ?_, ?_, ?_, ?_, ?_, ?_, ?_, ?_, trivial⟩ rfl (by kernel_rfl) ?_
  · intro kk aa hk E
    have h0 : aa.eval (.tmp 0) = Value.pointer (some ⟨b.rb, 0, none⟩) := (E 0 (by kernel_rfl)).trans (by kernel_rfl)
    exact obl_pure (by kernel_rfl) rfl hk fun w => op_move rfl rfl h0
  · intro kk aa hk E
    have h3 : aa.eval (.tmp 3) = Value.pointer (some ⟨w.heap.size, 0, none⟩) := (E 3 (by kernel_rfl)).trans (by kernel_rfl)
    exact obl_pure (by kernel_rfl) rfl hk fun w => op_fa (k := 1) rfl rfl rfl h3
  · intro kk aa hk E
    have h26 : aa.eval (.tmp 26) = Value.pointer (some ⟨w.heap.size, 1, none⟩) := (E 26 (by kernel_rfl)).trans (by kernel_rfl)
    refine obl_read (ks := [0]) (by kernel_rfl) (by kernel_rfl) rfl hk ⟨?_, trivial⟩
    · intro w' hw; cases hw; exact op_load1M rfl (by decide) rfl h26 (World.cell?_alloc_at _ _ _ _ rfl)
  · intro kk aa hk E
    have h4 : aa.eval (.tmp 4) = Value.pointer (some ⟨fb, ft, none⟩) := (E 4 (by kernel_rfl)).trans (by kernel_rfl)
    exact obl_pure (by kernel_rfl) rfl hk fun w => op_move rfl rfl h4
  · intro kk aa hk E
    have h28 : aa.eval (.tmp 28) = Value.pointer (some ⟨fb, ft, none⟩) := (E 28 (by kernel_rfl)).trans (by kernel_rfl)
    exact obl_pure (by kernel_rfl) rfl hk fun w => op_nil rfl rfl h28
  · intro kk aa hk E
    have h29 : aa.eval (.tmp 29) = Value.pointer (some ⟨fb, ft, none⟩) := (E 29 (by kernel_rfl)).trans (by kernel_rfl)
    exact obl_pure (by kernel_rfl) rfl hk fun w => op_fa (k := 2) rfl rfl rfl h29
  · intro kk aa hk E
    have h30 : aa.eval (.tmp 30) = Value.pointer (some ⟨fb, ft + 2, none⟩) := (E 30 (by kernel_rfl)).trans (by kernel_rfl)
    refine obl_read (ks := [0]) (by kernel_rfl) (by kernel_rfl) rfl hk ⟨?_, trivial⟩
    · intro w' hw; cases hw; exact op_load1M rfl (by decide) rfl h30 (q2 _)
  · intro kk aa hk E
    have h31 : aa.eval (.tmp 31) = .slice f.A f.L.length f.c := (E 31 (by kernel_rfl)).trans (by kernel_rfl)
    refine obl_call (ks := [0]) (by kernel_rfl) (by kernel_rfl) rfl hk ⟨?_, trivial⟩
    · intro w' hw; cases hw; exact op_call55 rfl h31 hLc hL0
  · intro kk aa hk E
    have h27 : aa.eval (.tmp 27) = iv j := (E 27 (by kernel_rfl)).trans (by kernel_rfl)
    have h32 : aa.eval (.tmp 32) = .slice f.A f.L.length f.L.length := (E 32 (by kernel_rfl)).trans (by kernel_rfl)
    exact obl_pure (by kernel_rfl) rfl hk fun w => op_fun rfl rfl h27 h32
  intro af haf
  simp only [List.take_succ_cons, List.take_zero, finA, Act.put, List.setIfInBounds_toArray, List.set_cons_succ, List.set_cons_zero] at haf
  subst haf
  simp only [List.drop_succ_cons, List.drop_zero]
  go_wp2_with (go_at_call 128; refine (H2.out _ (k + nq + 1)).mono ?_; intro e w1 k1; obtain ⟨rfl, k2⟩ := id k1; have K1 := Lib.hid k1; clear k1 k2)
  exact bodyPost_ret (v := .tuple #[]) (results_none rfl _ _ _) rfl K1.out
end Go.Proofs.YtgboboljgcfggaaGreatDoor
namespace Go.Proofs.YtgboboljgcfggaaGreatDoor
open Go.RowKit
theorem FOk.take {B : Nat} {tag : Nat → Tag} {w : World} {d : Nat} {f : Fr} (h : FOk B tag w d f) (n : Nat) (hn : n ≤ f.L.length) : FOk B tag w d { f with L := f.L.take n, c := n } := by
  have hl : (f.L.take n).length = n := by rw [List.length_take, Nat.min_eq_left hn]
  refine ⟨.mk (Nat.le_of_eq hl) (Nat.le_trans hn (Nat.le_trans h.l.hc h.l.hm)) (fun e => by have := h.l.h0 e; have := h.l.hc; show n = 0; omega) h.l.hb (fun a lo sz e ht => absurd ht (h.na a lo sz e)) (fun a e j x hj => h.l.hx a e j x ?_) (fun x hx => h.l.hr x (List.mem_of_mem_take hx)), h.na, .inl hl.symm⟩
  have : j < n := by
    rcases Nat.lt_or_ge j n with h' | h'
    · exact h'
    · rw [List.getElem?_eq_none (by rw [hl]; exact h')] at hj; cases hj
  rwa [List.getElem?_take, if_pos this] at hj
theorem EffP.top {b : Bl} {p : Prg} {w W : World} {g : Gh} {G : List Fr} {f f' : Fr} {steps seed err : Int} {fb c ft i : Nat} {u : Value} (hm : Mem b W g) (hc : Ch w g W g) (hR : RB b p W g.sv g.fv steps seed false err) (hF : g.F = G ++ [f]) (ht : Top b w g f fb c ft) (hne : b.rb ≠ fb) (hcs : f'.cs = f.cs.set i u) (hf : FOk b.B g.tag W G.length f') :
    EffP b p w g (.ok ⟨ers g.S, G.map Fr.er ++ [f'.er], seed, false⟩) steps err (.returned (.tuple #[])) (W.setCell ⟨fb, ft + i, none⟩ u) := by
  obtain ⟨m1, c1⟩ := hm.setTop hF ht.hv hcs hf
  rw [← ht.hft] at m1 c1
  exact EffP.mk m1 (hc.trans c1) (hR.keep (Below.heap_setCell _ _ _ _ hne)) rfl (by simp)
set_option maxRecDepth 100000 in
set_option maxHeartbeats 1000000 in
theorem drop_flt (b : Bl) (p : Prg) (op xa xb : Int) (name : T) (w : World) (g : Gh) (G : List Fr) (f : Fr) (steps seed err : Int) (hm : Mem b w g) (hR : RB b p w g.sv g.fv steps seed false err) (hF : g.F = G ++ [f]) (hn : g.F.length ≤ 1000000) (h : (f.L.length : Int) < xa) :
    Calls Tryz.prog 146 #[.pointer (some ⟨b.rb, 0, none⟩), .agg #[iv op, iv xa, iv xb, tv name]] w (EffP b p w g (.error 26) steps err) := by
  obtain ⟨fb, c, ft, ht, hne, C1⟩ := top_pack hm hR hF hn
  have fin : ∀ o k, EffP b p w g (.error 26) steps err (.panicked (stopC 26)) ((w.alloc o).drewN k) := fun o k => EffP.flt (w1 := w) (grown_weak (World.grownBy.refl w none) _) ⟨rfl, (grown_alloc w o _).trans (grown_drewN _ k _), _, _, _, hR.alloc o⟩
  have q2 := fun o => cell_al (ht.hc 2 (by omega)) ht.hlt o
  have H1 := Lib.hid C1
  have FIN := Lib.hid fin
  have FA := Lib.hid (fun W => fault_any 26 W)
  clear C1 fin hm hR hF hn ht hne
  go_enter Tryz.func146, Tryz.ntmps146
  go_wp2_with (go_at_call 106; refine (H1.out _ 0).mono ?_; rintro e w1 ⟨rfl, k, rfl⟩)
  go_quiet (fail)
  go_wp2_with (go_at_call 105; refine (FA.out _).mono ?_; rintro e w1 ⟨rfl, rfl⟩)
  exact ⟨rfl, FIN.out _ _⟩
set_option maxRecDepth 100000 in
set_option maxHeartbeats 1000000 in
theorem drop_ok (b : Bl) (p : Prg) (op xb : Int) (j : Nat) (name : T) (w : World) (g : Gh) (G : List Fr) (f : Fr) (steps seed err : Int) (hm : Mem b w g) (hR : RB b p w g.sv g.fv steps seed false err) (hF : g.F = G ++ [f]) (hn : g.F.length ≤ 1000000) (h : j ≤ f.L.length) :
    Calls Tryz.prog 146 #[.pointer (some ⟨b.rb, 0, none⟩), .agg #[iv op, iv j, iv xb, tv name]] w (EffP b p w g (.ok ⟨ers g.S, G.map Fr.er ++ [{ f.er with L := f.er.L.take (f.er.L.length - j) }], seed, false⟩) steps err) := by
  obtain ⟨fb, c, ft, ht, hne, C1⟩ := top_pack hm hR hF hn
  have hok := (hm.top hF).l
  have hLc := hok.hc
  have hLm := hok.hm
  have hL0 := hok.h0
  obtain ⟨n, hnn⟩ : ∃ n, n = f.L.length - j := ⟨_, rfl⟩
  have fin : ∀ o k, EffP b p w g (.ok ⟨ers g.S, G.map Fr.er ++ [{ f.er with L := f.er.L.take (f.er.L.length - j) }], seed, false⟩) steps err (.returned (.tuple #[])) (((w.alloc o).drewN k).setCell ⟨fb, ft + 2, none⟩ (.slice f.A n n)) := fun o k => by
    have m2 := (hm.alloc o).drewN k
    have := EffP.top (w := w) (f' := { f with L := f.L.take n, c := n }) (i := 2) (u := .slice f.A n n) m2 (Ch.grown ((grown_alloc w o _).trans (grown_drewN _ k _))) (hR.alloc o) hF ht hne (by simp [Fr.cs]; omega) ((m2.top hF).take n (by omega))
    have e : ({ f with L := f.L.take n, c := n } : Fr).er = { f.er with L := f.er.L.take (f.er.L.length - j) } := by
      simp only [Fr.er, ers_take, ers_length, hnn]
    rwa [e] at this
  have q2 := fun o => cell_al (ht.hc 2 (by omega)) ht.hlt o
  have qf : ∀ o i, (w.alloc o).frozen? ⟨fb, i, none⟩ = false := fun o i => (World.frozen?_of_block (w := w) (Below.heap_alloc _ _ _ ht.hlt)).trans (ht.fz i)
  have H1 := Lib.hid C1
  have FIN := Lib.hid fin
  have t1 : ¬ (f.L.length : Int) < (j : Int) := by omega
  have t2 : wrap64 (n : Int) = (n : Int) := IntWalk.wrap64_in _ ⟨by omega, by omega⟩
  have t8 : IntKind.i64.wrap (n : Int) = (n : Int) := IntWalk.i64_in _ (by omega)
  have t3 : ((n : Int)).toNat = n := by omega
  have t4 : (0 : Int) ≤ (n : Int) := by omega
  have t5 : (n : Int) ≤ (f.c : Int) := by omega
  have t6 : n ≤ f.c := by omega
  have t7 : ((f.L.length : Int) - (j : Int)) = (n : Int) := by omega
  clear C1 fin hm hR hF hn ht hne hok hLm hnn
  generalize f.L.length = N at *
  go_enter Tryz.func146, Tryz.ntmps146
  go_wp2_with (go_at_call 106; refine (H1.out _ 0).mono ?_; rintro e w1 ⟨rfl, k, rfl⟩)
  go_quiet (fail)
  go_wp2
  go_quiet (fail)
  go_wp2
  exact bodyPost_ret (v := .tuple #[]) (results_none rfl _ _ _) rfl (FIN.out _ _)
end Go.Proofs.YtgboboljgcfggaaGreatDoor
namespace Go.Proofs.YtgboboljgcfggaaGreatDoor
open Go.RowKit
structure ApF (b : Bl) (p : Prg) (W : World) (g : Gh) (f : Fr) (steps seed : Int) (done : Bool) (err : Int) (gg c : Nat) (w' : World) : Prop where
  R : RB b p w' g.sv g.fv steps seed done err
  ne : b.rb ≠ gg
  row : w'.ownsRow b.B 158 3 (.slice (some ⟨gg, 0, none⟩) (g.F.length + 1) c) (g.F.length + 1) (g.F.flatMap Fr.cs ++ f.cs)
  gr : W.grownBy w' g.fv.ownBlock
  own : g.fv.ownBlock = some gg ∨ gg = W.heap.size
def ApFX (b : Bl) (p : Prg) (W : World) (g : Gh) (f : Fr) (steps seed : Int) (done : Bool) (err : Int) (v' : Value) (w' : World) : Prop := ∃ gg c, v' = .slice (some ⟨gg, 0, none⟩) (g.F.length + 1) c ∧ ApF b p W g f steps seed done err gg c w'
theorem apf_run {b : Bl} {p : Prg} {W : World} {g : Gh} {steps seed : Int} {done : Bool} {err : Int} (hm : Mem b W g) (hR : RB b p W g.sv g.fv steps seed done err) (hn : g.F.length ≤ 1000000) (f : Fr)
    (k : Nat) (hk : W.heap[k]? = some (.cells #[iv f.block, iv f.at_, .slice f.A f.L.length f.c] 158 (0, 0))) (ty : TypeId) :
    ∃ v' w', (Builtin.append_ #[48, 48] ty #[g.fv, .slice (some ⟨k, 0, none⟩) 1 1]).run Tryz.prog W = .ok v' w' ∧ ApFX b p W g f steps seed done err v' w' := by
  obtain ⟨i0, hi, hz0, hz1, hz2⟩ := info_parts info78
  have hnew : ∀ (j : Nat) u, f.cs[j]? = some u → W.cell? ((⟨k, 0, none⟩ : Addr).add j) = some u := fun j u hu => by
    have : ((⟨k, 0, none⟩ : Addr).add j) = ⟨k, j, none⟩ := by unfold Addr.add; split <;> simp [*]
    rw [this]
    simp only [World.cell?, hk]
    simpa [Fr.cs] using hu
  obtain ⟨v', w', hrun, h2, h3, h4, h5⟩ := run_append_own_at (P := Tryz.prog) (w := W) b.B 48 ty 158 i0 _ 3 40 Tryz.underlying48 hi hz0 hz1 hz2 rfl (by decide) g.fv g.F.length (g.F.flatMap Fr.cs) hm.fr ⟨k, 0, none⟩ 1 1 f.cs rfl hnew
    (by intro u hu; simp [Fr.cs] at hu; rcases hu with rfl | rfl | rfl <;> rfl) (by unfold maxLen; omega) (by omega) hm.hs
  have own2 : ∀ k, g.fv.ownBlock = some k → ∃ cur, W.heap[k]? = some (.cells cur 158 (0, 0)) := fun k h => by
    rcases hm.fr.2 with ⟨e, _⟩ | ⟨g2, cap2, cur2, e, _, hg2, _⟩
    · rw [e] at h; cases h
    · rw [e] at h
      have : k = g2 := by simpa [Value.ownBlock] using h.symm
      subst this
      exact ⟨_, hg2⟩
  have nrb : ∀ k, g.fv.ownBlock = some k → b.rb ≠ k := fun k h => by
    obtain ⟨cur, hc⟩ := own2 k h
    exact fb_ne hR hc
  have hR' := hR.keep (h3.block _ hR.lt fun e => nrb _ e.symm rfl)
  refine ⟨v', w', hrun, ?_⟩
  rcases h2.2 with ⟨_, h⟩ | ⟨gg, cap, cur, rfl, hb, hg, hnc, hmx, hcs, ht⟩
  · omega
  · have ho : g.fv.ownBlock = some gg ∨ gg = W.heap.size := by
      rcases h5 with h5 | h5
      · exact .inl h5.symm
      · exact .inr (by simpa [Value.ownBlock] using h5)
    refine ⟨gg, cap, rfl, hR', ?_, h2, h3, ho⟩
    rcases ho with h | h
    · exact nrb _ h
    · have := hR.lt; omega
def CallP (b : Bl) (p : Prg) (w : World) (g : Gh) (f : Fr) (steps seed : Int) (done : Bool) (err : Int) (e : Ending) (w' : World) : Prop :=
  e = .returned (.tuple #[]) ∧ ∃ g', Mem b w' g' ∧ Ch w g w' g' ∧ g'.S = g.S ∧ g'.F = g.F ++ [f] ∧ RB b p w' g'.sv g'.fv steps seed done err
theorem CallP.mk {b : Bl} {p : Prg} {w W : World} {g : Gh} {f : Fr} {steps seed : Int} {done : Bool} {err : Int} {gg c : Nat} {w2 : World} (hm : Mem b w g) (hf : FOk b.B g.tag w g.F.length f)
    (hW : w.grownBy W none) (ha : ApF b p W g f steps seed done err gg c w2) :
    CallP b p w g f steps seed done err (.returned (.tuple #[])) (w2.setCell ⟨b.rb, 3, none⟩ (.slice (some ⟨gg, 0, none⟩) (g.F.length + 1) c)) := by
  have hmW : Mem b W g := hm.keep hW.os hW.tape hW.output hW.size w.heap.size (by intro h; omega) fun k hk _ _ => hW.block k hk (by simp)
  have hfW : FOk b.B g.tag W g.F.length f := hf.mono hW.size (fun _ _ => Tag.le_refl _) (fun q hq _ => World.cell?_of_block (w := w) (hW.block _ hq (by simp))) fun k hi _ hk ht => ⟨ht, hW.block k hk (by simp)⟩
  have own2 : ∀ k, g.fv.ownBlock = some k → ∃ cur, W.heap[k]? = some (.cells cur 158 (0, 0)) := fun k h => by
    rcases hmW.fr.2 with ⟨e, _⟩ | ⟨g2, cap2, cur2, e, _, hg2, _⟩
    · rw [e] at h; cases h
    · rw [e] at h
      have : k = g2 := by simpa [Value.ownBlock] using h.symm
      subst this
      exact ⟨_, hg2⟩
  have hX : ∀ k, k = gg ∨ g.fv.ownBlock = some k → k < W.heap.size → g.tag k = .own ∧ ∃ cur T, W.heap[k]? = some (.cells cur T (0, 0)) ∧ (T = 56 ∨ T = 158) := fun k hk hl => by
    have h1 : g.fv.ownBlock = some k := by
      rcases hk with rfl | h
      · rcases ha.own with h | h
        · exact h
        · omega
      · exact h
    obtain ⟨cur, hc⟩ := own2 k h1
    exact ⟨hmW.frt k h1, cur, 158, hc, .inr rfl⟩
  have hrest : ∀ k, k < W.heap.size → ¬ (k = gg ∨ g.fv.ownBlock = some k) → w2.heap[k]? = W.heap[k]? := fun k hk hne => ha.gr.block k hk fun e => hne (.inr e.symm)
  have hB2 : ∀ k, k = gg ∨ g.fv.ownBlock = some k → b.B ≤ k := fun k hk => by
    rcases hk with rfl | h
    · exact (World.ownsRow.lt ha.row _ rfl).1
    · exact (World.ownsRow.lt hmW.fr k h).1
  have hfr : w2.ownsRow b.B 158 3 (.slice (some ⟨gg, 0, none⟩) (g.F.length + 1) c) (g.F ++ [f]).length ((g.F ++ [f]).flatMap Fr.cs) := by
    have e1 : (g.F ++ [f]).length = g.F.length + 1 := by simp
    have e2 : (g.F ++ [f]).flatMap Fr.cs = g.F.flatMap Fr.cs ++ f.cs := by simp
    rw [e1, e2]
    exact ha.row
  have hst : w2.ownsRow b.B 56 8 g.sv g.S.length (g.S.flatMap AV.cs) := row_keep hmW.st fun k cur e1 e2 => hrest k (heap_ltM e2) fun e => by
    obtain ⟨_, cur', T, h1, h2⟩ := hX k e (heap_ltM e2)
    have h3 : g.fv.ownBlock = some k := by
      rcases e with rfl | h
      · rcases ha.own with h | h
        · exact h
        · have := heap_ltM e2; omega
      · exact h
    obtain ⟨cur3, h4⟩ := own2 k h3
    rw [e2] at h4
    simp at h4
  have hfl : ∀ (d : Nat) f', (g.F ++ [f])[d]? = some f' → FOk b.B g.tag W d f' := fun d f' hd => by
    rcases Nat.lt_or_ge d g.F.length with h1 | h1
    · rw [List.getElem?_append_left h1] at hd
      exact hmW.fl d f' hd
    · rw [List.getElem?_append_right h1] at hd
      have hd0 : d - g.F.length = 0 := by
        rcases Nat.lt_or_ge (d - g.F.length) 1 with h2 | h2
        · omega
        · rw [List.getElem?_eq_none (by simpa using h2)] at hd; cases hd
      rw [hd0] at hd
      simp at hd
      subst hd
      rw [show d = g.F.length by omega]
      exact hfW
  have hfv2 : ∀ k, (Value.slice (some ⟨gg, 0, none⟩) (g.F.length + 1) c).ownBlock = some k → k = gg ∨ g.tag k = .own := fun k e => .inl (by simpa [Value.ownBlock] using e.symm)
  obtain ⟨m1, c1⟩ := Mem.one (g' := { g with tag := upT g.tag gg .own, F := g.F ++ [f], fv := .slice (some ⟨gg, 0, none⟩) (g.F.length + 1) c }) hmW ha.gr.os ha.gr.tape ha.gr.output ha.gr.size (fun k => k = gg ∨ g.fv.ownBlock = some k) gg (.inl rfl)
    hB2 (World.ownsRow.lt ha.row _ rfl).2 hX (fun k hk hne _ => hrest k hk hne) rfl rfl hst (fun k e => .inr (hmW.stt k e)) hfr hfv2 hmW.sr hfl (fun k hk hne _ => hrest k hk hne)
  exact ⟨rfl, _, m1.only (grown_setR b.rb 3 _) ha.R, ((Ch.grown hW).trans c1).trans (Ch.only m1 (grown_setR _ _ _)), rfl, rfl, ha.R.s_fv _⟩
set_option maxRecDepth 100000 in
set_option maxHeartbeats 1000000 in
theorem call_any (b : Bl) (p : Prg) (f : Fr) (w : World) (g : Gh) (steps seed : Int) (done : Bool) (err : Int) (hm : Mem b w g) (hR : RB b p w g.sv g.fv steps seed done err) (hf : FOk b.B g.tag w g.F.length f) (hat : f.at_ = 0) (hn : g.F.length ≤ 1000000) :
    Calls Tryz.prog 132 #[.pointer (some ⟨b.rb, 0, none⟩), iv f.block, .slice f.A f.L.length f.c] w (CallP b p w g f steps seed done err) := by
  obtain ⟨_, w2, hrun, gg, c', rfl, ha⟩ := apf_run (hm.alloc (.cells #[iv f.block, iv f.at_, .slice f.A f.L.length f.c] 158)) (hR.alloc _) hn f w.heap.size (al_newM _ _) 48
  have fin := CallP.mk hm hf (grown_alloc w _ _) ha
  have c3 := (rb_cell (hR.alloc (.cells #[iv f.block, iv f.at_, .slice f.A f.L.length f.c] 158))).2.1
  have c30 := (rb_cell hR).2.1
  have w3 := (rb_cell ha.R).2.1
  have f3 := ha.R.f 3
  have FIN := Lib.hid fin
  have RUN := Lib.hid hrun
  rw [hat] at RUN
  clear fin hrun hm hR hf ha c3 hat
  go_enter Tryz.func132, Tryz.ntmps132
  go_wp2_with (at_builtin; refine list_own _ rfl (.tmp 11) (.tmp 15) 48 rfl _ _ (fun v' w' => v' = .slice (some ⟨gg, 0, none⟩) (g.F.length + 1) c' ∧ w' = w2) rfl rfl ⟨_, _, RUN.out, rfl, rfl⟩ ?_; rintro v' w' ⟨rfl, rfl⟩)
  exact bodyPost_ret (v := .tuple #[]) (results_none rfl _ _ _) rfl FIN.out
theorem FOk.nil (B : Nat) (tag : Nat → Tag) (w : World) (d : Nat) (bl : Int) : FOk B tag w d ⟨bl, 0, none, 0, []⟩ := ⟨LRd.nil _ _ _, fun a lo sz e => (by cases e), .inl rfl⟩
set_option maxRecDepth 100000 in
set_option maxHeartbeats 1000000 in
theorem eff_global (b : Bl) (p : Prg) (op xa xb : Int) (name : T) (w : World) (g : Gh) (steps seed err : Int) (hm : Mem b w g) (hR : RB b p w g.sv g.fv steps seed false err) (hn : g.F.length ≤ 1000000) :
    Calls Tryz.prog 131 #[.agg #[iv op, iv xa, iv xb, tv name], .pointer (some ⟨b.tb, 0, none⟩)] w (EffP b p w g (.ok ⟨ers g.S, g.F.map Fr.er ++ [⟨xa, 0, []⟩], seed, false⟩) steps err) := by
  have C1 : ∀ o, Calls Tryz.prog 132 #[.pointer (some ⟨b.rb, 0, none⟩), iv xa, .slice none 0 0] (w.alloc o) (EffP b p w g (.ok ⟨ers g.S, g.F.map Fr.er ++ [⟨xa, 0, []⟩], seed, false⟩) steps err) := fun o => by
    refine (call_any b p ⟨xa, 0, none, 0, []⟩ (w.alloc o) g steps seed false err (hm.alloc o) (hR.alloc o) (FOk.nil _ _ _ _ _) rfl hn).mono ?_
    rintro e w' ⟨rfl, g', h1, h2, h3, h4, h5⟩
    exact ⟨rfl, g', h1, (Ch.grown (grown_alloc w o _)).trans h2, h5, by rw [h3], by rw [h4]; simp [Fr.er]⟩
  have H1 := Lib.hid C1
  have ct := fun o => tb_cell' hm o
  clear C1 hm hR hn
  go_enter Tryz.func131, Tryz.ntmps131
  go_wp2_with (go_at_call 132; refine (H1.out _).mono ?_; intro e w1 k1; obtain ⟨rfl, k2⟩ := id k1; have K1 := Lib.hid k1; clear k1 k2)
  exact bodyPost_ret (v := .tuple #[]) (results_none rfl _ _ _) rfl K1.out
end Go.Proofs.YtgboboljgcfggaaGreatDoor
namespace Go.Proofs.YtgboboljgcfggaaGreatDoor
open Go.RowKit
theorem cs_one (x : AV) : ∀ u ∈ x.cs, u.oneCell' = true := by
  intro u hu
  simp [AV.cs] at hu
  rcases hu with rfl | rfl | rfl | rfl | rfl | rfl <;> rfl
theorem flat_one (L : List AV) : ∀ u ∈ L.flatMap AV.cs, u.oneCell' = true := fun u hu => by
  obtain ⟨x, _, hx⟩ := List.mem_flatMap.1 hu
  exact cs_one x u hx
theorem flat_get : ∀ (L : List AV) (k : Nat) u, (L.flatMap AV.cs)[k]? = some u → ∃ j i x, L[j]? = some x ∧ i < 8 ∧ k = j * 8 + i ∧ x.cs[i]? = some u := by
  intro L
  induction L with
  | nil => intro k u h; simp at h
  | cons y L ih =>
    intro k u h
    simp only [List.flatMap_cons] at h
    by_cases hk : k < 8
    · rw [List.getElem?_append_left (by rw [AV.cs_len]; exact hk)] at h
      exact ⟨0, k, y, rfl, hk, by omega, h⟩
    · rw [List.getElem?_append_right (by rw [AV.cs_len]; omega), AV.cs_len] at h
      obtain ⟨j, i, x, h1, h2, h3, h4⟩ := ih _ _ h
      exact ⟨j + 1, i, x, by simpa using h1, h2, by omega, h4⟩
theorem LRd.flat {B : Nat} {tag : Nat → Tag} {w : World} {c : Nat} {L : List AV} {a : Addr} (h : LRd B tag w (some a) c L) : ∀ (k : Nat) u, (L.flatMap AV.cs)[k]? = some u → w.cell? (a.add k) = some u := fun k u hu => by
  obtain ⟨j, i, x, h1, h2, rfl, h4⟩ := flat_get L k u hu
  exact (h.hx a rfl j x h1 i u h4).1
theorem grow_run {B : Nat} {tag : Nat → Tag} {W : World} {A : Option Addr} {L M : List AV} {cap : Nat} (hl : LRd B tag W A cap L) (k m : Nat) (hcap : cap < L.length + m) (hm : M.length = m) (hpos : 0 < m) (hk : ∀ (j : Nat) u, (M.flatMap AV.cs)[j]? = some u → W.cell? ⟨k, j, none⟩ = some u) (hn : L.length ≤ 1000000) (hm2 : m ≤ 1000000) (ty : TypeId) :
    ∃ v' w', (Builtin.append_ #[47, 47] ty #[.slice A L.length cap, .slice (some ⟨k, 0, none⟩) m m]).run Tryz.prog W = .ok v' w' ∧ ∃ gg c, v' = .slice (some ⟨gg, 0, none⟩) (L.length + m) c ∧ W.heap.size ≤ gg ∧ w'.ownsRow W.heap.size 56 8 (.slice (some ⟨gg, 0, none⟩) (L.length + m) c) (L.length + m) ((L ++ M).flatMap AV.cs) ∧ W.grownBy w' none := by
  subst hm
  obtain ⟨i0, hi, hz0, hz1, hz2⟩ := info_parts info54
  have hnew : ∀ (j : Nat) u, (M.flatMap AV.cs)[j]? = some u → W.cell? ((⟨k, 0, none⟩ : Addr).add j) = some u := fun j u hu => by
    have : ((⟨k, 0, none⟩ : Addr).add j) = ⟨k, j, none⟩ := by unfold Addr.add; split <;> simp [*]
    rw [this]
    exact hk j u hu
  have fin : ∀ v' w', w'.ownsRow W.heap.size 56 8 v' (L.length + M.length) (L.flatMap AV.cs ++ M.flatMap AV.cs) → W.grownBy w' none → ∃ gg c, v' = .slice (some ⟨gg, 0, none⟩) (L.length + M.length) c ∧ W.heap.size ≤ gg ∧ w'.ownsRow W.heap.size 56 8 (.slice (some ⟨gg, 0, none⟩) (L.length + M.length) c) (L.length + M.length) ((L ++ M).flatMap AV.cs) ∧ W.grownBy w' none := fun v' w' h1 h2 => by
    have h3 := h1
    rcases h1.2 with ⟨_, h⟩ | ⟨gg, cap, cur, rfl, hb, _⟩
    · omega
    · exact ⟨gg, cap, rfl, hb, by rw [List.flatMap_append]; exact h3, h2⟩
  cases hA : A with
  | some a =>
    subst hA
    obtain ⟨v', w', h1, h2, h3⟩ := run_append_arg_grows (P := Tryz.prog) W 47 ty 56 i0 _ 8 128 Tryz.underlying47 hi hz0 hz1 hz2 rfl (by decide) a L.length cap (L.flatMap AV.cs) (flat8 L) hl.flat ⟨k, 0, none⟩ M.length M.length (M.flatMap AV.cs) (flat8 M) hnew hcap (by unfold maxLen; omega) (by omega)
    exact ⟨v', w', h1, fin v' w' h2 h3⟩
  | none =>
    subst hA
    have h0 := hl.h0 rfl
    subst h0
    have hL : L = [] := List.eq_nil_of_length_eq_zero (by have := hl.hc; omega)
    subst hL
    obtain ⟨v', w', h1, h2, h3, _⟩ := run_append_own_at (P := Tryz.prog) (w := W) W.heap.size 47 ty 56 i0 _ 8 128 Tryz.underlying47 hi hz0 hz1 hz2 rfl (by decide) (.slice none 0 0) 0 [] (World.ownsRow_nil _ _ _ _) ⟨k, 0, none⟩ M.length M.length (M.flatMap AV.cs) (flat8 M) hnew (flat_one M) (by unfold maxLen; omega) (by omega) (Nat.le_refl _)
    exact ⟨v', w', h1, fin v' w' (by simpa using h2) h3⟩
theorem Mem.grow {b : Bl} {w w' : World} {g : Gh} (h : Mem b w g) (hg : w.grownBy w' none) (k : Nat) (hk : w.heap.size ≤ k) (hk' : k < w'.heap.size) (t : Tag) : Mem b w' { g with tag := upT g.tag k t } ∧ Ch w g w' { g with tag := upT g.tag k t } := by
  have hB := h.hs
  have old : ∀ i, i < w.heap.size → w'.heap[i]? = w.heap[i]? := fun i hi => hg.block i hi (by simp)
  have tg : ∀ i, i ≠ k → upT g.tag k t i = g.tag i := fun i hi => upT_ne _ _ hi
  have lt : ∀ {i : Nat}, g.tag i ≠ .no → i < w.heap.size := fun {i} hi => by
    rcases Nat.lt_or_ge i w.heap.size with h1 | h1
    · exact h1
    · exact absurd (h.new i h1) hi
  have own : ∀ {i : Nat}, g.tag i = .own → upT g.tag k t i = .own := fun {i} hi => by
    have := lt (i := i) (by rw [hi]; simp)
    rw [tg i (by omega), hi]
  have le : ∀ i, i < w.heap.size → (g.tag i).le (upT g.tag k t i) := fun i hi => by rw [tg i (by omega)]; exact Tag.le_refl _
  have cells : ∀ p : Addr, p.block < w.heap.size → sta b.B g.tag p → w'.cell? p = w.cell? p := fun p hp _ => World.cell?_of_block (w := w) (old _ hp)
  obtain ⟨es, clk, m1, m2⟩ := h.mo
  refine ⟨{ os := hg.os.trans h.os, tape := hg.tape.trans h.tape, output := hg.output.trans h.output, hs := Nat.le_trans h.hs hg.size, old := fun i hi => (old i (by omega)).trans (h.old i hi), lo := fun i hi => by show upT g.tag k t i = _; rw [tg i (by omega)]; exact h.lo i hi, new := fun i hi => by show upT g.tag k t i = _; rw [tg i (by omega)]; exact h.new i (by have := hg.size; omega), rt := own h.rt, rbb := h.rbb, et := own h.et, eo := (old _ (heap_ltM h.eo)).trans h.eo, tt := own h.tt, to := (old _ (heap_ltM h.to)).trans h.to, mt := own h.mt, mbb := h.mbb, mo := ⟨es, clk, (old _ (heap_ltM m1)).trans m1, m2⟩, st := row_keep h.st fun i cur _ e2 => old i (heap_ltM e2), stt := fun i e => own (h.stt i e), fr := row_keep h.fr fun i cur _ e2 => old i (heap_ltM e2), frt := fun i e => own (h.frt i e), sr := fun x hx => (h.sr x hx).mono hg.size le cells, fl := ?_, rm := ?_, ra := h.ra }, ⟨hg.os, hg.tape, hg.output, hg.size, fun i hi _ => old i hi, le⟩⟩
  · exact fun d f hd => (h.fl d f hd).mono hg.size le cells fun i hi hB' hi' ht => ⟨by show upT g.tag k t i = _; rw [tg i (by omega), ht], old i hi'⟩
  · intro r hr
    have q := h.rm r hr
    obtain ⟨cur, q1, q2⟩ := q.a
    have hab := heap_ltM q1
    exact { q with o := (old _ (heap_ltM q.o)).trans q.o, ot := own q.ot, a := ⟨cur, (old _ hab).trans q1, q2⟩, at_ := by show upT g.tag k t r.ab = _; rw [tg _ (by omega)]; exact q.at_ }
theorem row_base {w : World} {B B' : Nat} {e : TypeId} {size : Nat} {v : Value} {n : Nat} {xs : List Value} (h : w.ownsRow B e size v n xs) (hB : B' ≤ B) : w.ownsRow B' e size v n xs := by
  refine ⟨h.1, ?_⟩
  rcases h.2 with h1 | ⟨g, cap, cur, h1, h2, h3⟩
  · exact .inl h1
  · exact .inr ⟨g, cap, cur, h1, Nat.le_trans hB h2, h3⟩
theorem FOk.grow {b : Bl} {w w' : World} {g : Gh} (h : Mem b w g) (hg : w.grownBy w' none) {L : List AV} (hx : ∀ x ∈ L, LRd b.B g.tag w x.A x.c x.list) {k c : Nat} (hk : w.heap.size ≤ k) (hc : c ≤ 9223372036854775807) (hr : w'.ownsRow w.heap.size 56 8 (.slice (some ⟨k, 0, none⟩) L.length c) L.length (L.flatMap AV.cs)) (d : Nat) (bl at_ : Int) :
    FOk b.B (upT g.tag k (.loc d (L.length * 8))) w' d ⟨bl, at_, some ⟨k, 0, none⟩, c, L⟩ := by
  have hB := h.hs
  have hlt := (World.ownsRow.lt hr k rfl).2
  have hnc : L.length ≤ c := by
    rcases hr.2 with ⟨e, _⟩ | ⟨g2, cap, cur, e, _, _, hnc, _⟩
    · cases e
    · cases e; exact hnc
  have le : ∀ i, i < w.heap.size → (g.tag i).le (upT g.tag k (.loc d (L.length * 8)) i) := fun i hi => by rw [upT_ne _ _ (by omega)]; exact Tag.le_refl _
  have cells : ∀ p : Addr, p.block < w.heap.size → sta b.B g.tag p → w'.cell? p = w.cell? p := fun p hp _ => World.cell?_of_block (w := w) (hg.block _ hp (by simp))
  refine ⟨.mk hnc hc (fun e => by cases e) (fun a e => by cases e; exact hlt) (fun a lo sz e ht => by cases e; simp at ht) (fun a e j x hj i v hi => ?_) (fun x hx' => (hx x hx').mono hg.size le cells), fun a lo sz e ht => by cases e; simp at ht, .inr ⟨k, rfl, by omega, by simp, row_base hr hB⟩⟩
  cases e
  have hj' : j < L.length := by
    rcases Nat.lt_or_ge j L.length with h' | h'
    · exact h'
    · rw [List.getElem?_eq_none h'] at hj; cases hj
  have hi8 : i < 8 := by
    rcases Nat.lt_or_ge i 8 with h' | h'
    · exact h'
    · rw [List.getElem?_eq_none (by rw [AV.cs_len]; exact h')] at hi; cases hi
  have ha : ((⟨k, 0, none⟩ : Addr).add (j * 8 + i)) = ⟨k, j * 8 + i, none⟩ := by
    by_cases e0 : j * 8 + i = 0
    · rw [e0]; rfl
    · rw [fld_add _ _ e0]; simp
  rw [ha]
  refine ⟨?_, .inr (.inr (.inr ⟨d, L.length * 8, by simp, by show j * 8 + i < L.length * 8; omega⟩))⟩
  rw [World.ownsRow.cellAt hr _ (by omega), flat_atM AV.cs 8 AV.cs_len hi8 L j hj]
  exact hi
end Go.Proofs.YtgboboljgcfggaaGreatDoor
namespace Go.Proofs.YtgboboljgcfggaaGreatDoor
open Go.RowKit
set_option maxRecDepth 100000 in
set_option maxHeartbeats 1000000 in
theorem apply_flt0 (b : Bl) (p : Prg) (op xa xb : Int) (name : T) (w : World) (g : Gh) (steps seed err : Int) (hm : Mem b w g) (hR : RB b p w g.sv g.fv steps seed false err) (hS : g.S = []) :
    Calls Tryz.prog 134 #[.pointer (some ⟨b.rb, 0, none⟩), .agg #[iv op, iv xa, iv xb, tv name]] w (EffP b p w g (.error 26) steps err) := by
  have H1 := Lib.hid (fun o => (pop_flt b p (w.alloc o) g steps seed false err (hm.alloc o) (hR.alloc o) hS).mono fun _ _ h => (EffP.flt (g := g) (w := w) (grown_alloc w o _) h : EffP b p w g (.error 26) steps err _ _))
  clear hm hR hS
  go_enter Tryz.func134, Tryz.ntmps134
  go_wp2_with (go_at_call 145; refine (H1.out _).mono ?_; intro e w1 k1; obtain ⟨rfl, k2⟩ := id k1; have K1 := Lib.hid k1; clear k1 k2)
  exact ⟨rfl, K1.out⟩
theorem any_one (b : Bl) (p : Prg) (w : World) (g : Gh) (S : List AV) (x : AV) (steps seed err : Int) (hm : Mem b w g) (hR : RB b p w g.sv g.fv steps seed false err) (hn : g.S.length ≤ 1000000) (h : g.S = S ++ [x]) (o : Obj) :
    Calls Tryz.prog 145 #[.pointer (some ⟨b.rb, 0, none⟩)] (w.alloc o) fun e w' => e = .returned x.v ∧ One b p w g o S steps seed err w' :=
  (pop_mem b p (w.alloc o) g S x steps seed false err (hm.alloc o) (hR.alloc o) h hn).mono fun _ _ h => ⟨h.1, One.of hm hR.lt h⟩
set_option maxRecDepth 100000 in
set_option maxHeartbeats 1000000 in
theorem apply_flt1 (b : Bl) (p : Prg) (op xa xb : Int) (name : T) (w : World) (g : Gh) (S : List AV) (x : AV) (steps seed err : Int) (hm : Mem b w g) (hR : RB b p w g.sv g.fv steps seed false err) (hn : g.S.length ≤ 1000000) (h : g.S = S ++ [x]) (hk : popK 4 (ers S) = none) :
    Calls Tryz.prog 134 #[.pointer (some ⟨b.rb, 0, none⟩), .agg #[iv op, iv xa, iv xb, tv name]] w (EffP b p w g (.error 26) steps err) := by
  have H1 := Lib.hid (any_one b p w g S x steps seed err hm hR hn h)
  have hl : g.S.length = S.length + 1 := by rw [h]; simp
  have C2 : ∀ o w1 o', One b p w g o S steps seed err w1 → Calls Tryz.prog 138 #[.pointer (some ⟨b.rb, 0, none⟩), .int .i64 4] (w1.alloc o') (EffP b p w g (.error 26) steps err) := fun o w1 o' ⟨_, h1, g2, e1, e2, e3, e4, h2, h3, h4⟩ => by
    refine (popK_any b p (w1.alloc o') g2 4 steps seed false err (h2.alloc o') (h4.alloc o') (by rw [e1]; omega)).mono fun e w' hp => ?_
    unfold PopKP at hp
    rw [e1, hk] at hp
    exact EffP.flt (h1.trans (grown_alloc w1 o' _)) hp
  have H2 := Lib.hid C2
  clear C2 hm hR hn h hk hl
  unfold AV.v at H1
  go_enter Tryz.func134, Tryz.ntmps134
  go_wp2_with (first | (go_at_call 145; refine (H1.out _).mono ?_; rintro e w1 ⟨rfl, k1⟩; have K1 := Lib.hid k1; clear k1) | (go_at_call 138; refine (H2.out _ _ _ K1.out).mono ?_; intro e w2 k2; obtain ⟨rfl, k3⟩ := id k2; have K2 := Lib.hid k2; clear k2 k3))
  exact ⟨rfl, K2.out⟩
theorem LRd.only {b : Bl} {w w' : World} {g : Gh} (hm : Mem b w g) (hg : w.grownBy w' (some b.rb)) {A : Option Addr} {c : Nat} {L : List AV} (h : LRd b.B g.tag w A c L) : LRd b.B g.tag w' A c L :=
  h.mono hg.size (fun _ _ => Tag.le_refl _) fun q hq hs => World.cell?_of_block (w := w) (hg.block _ hq fun e => by
    have e' : q.block = b.rb := Option.some.inj e
    have h1 := hm.rbb
    have h2 := hm.rt
    rcases hs with h3 | h3 | ⟨lo, sz, h3, _⟩ | ⟨d, hi, h3, _⟩
    · omega
    · rw [e', h2] at h3; cases h3
    · rw [e', h2] at h3; cases h3
    · rw [e', h2] at h3; cases h3)
structure Apl (b : Bl) (p : Prg) (w : World) (g : Gh) (S : List AV) (x : AV) (steps seed err : Int) (w1 w2 : World) : Prop where
  hx : w2.heap[w1.heap.size]? = some (.cells #[iv x.kind, iv x.int, .slice x.A x.list.length x.c, iv x.block, eSm, eSm, nilS, nilS] 56)
  hlt : w1.heap.size < w2.heap.size
  hgr : w.grownBy w2 (some b.rb)
  hm : ∃ g3, g3.S = S ∧ g3.F = g.F ∧ g3.tag = g.tag ∧ Mem b w2 g3 ∧ Ch w g w2 g3 ∧ RB b p w2 g3.sv g3.fv steps seed false err
structure Apd (b : Bl) (p : Prg) (w : World) (g : Gh) (S : List AV) (h x : AV) (steps seed err : Int) (W : World) (gg c : Nat) (w4 : World) : Prop where
  old : ∀ k, k < W.heap.size → w4.heap[k]? = W.heap[k]?
  call : Calls Tryz.prog 132 #[.pointer (some ⟨b.rb, 0, none⟩), iv h.block, .slice (some ⟨gg, 0, none⟩) (h.list.length + 1) c] w4 (EffP b p w g (.ok ⟨ers S, g.F.map Fr.er ++ [⟨h.block, 0, ers h.list ++ [x.er]⟩], seed, false⟩) steps err)
theorem apl_run {b : Bl} {p : Prg} {w : World} {g : Gh} {S : List AV} {h x : AV} {steps seed err : Int} {w1 w2 : World} (ha : Apl b p w g S x steps seed err w1 w2) (hh : LRd b.B g.tag w h.A h.c h.list) (hx : LRd b.B g.tag w x.A x.c x.list) (hm : Mem b w g) (hn : g.F.length ≤ 1000000) (hl : h.list.length ≤ 1000000) (o : Obj) (k : Nat) :
    ∃ gg c w4, (Builtin.append_ #[47, 47] 33 #[.slice h.A h.list.length h.list.length, .slice (some ⟨w2.heap.size + 1, 0, none⟩) 1 1]).run Tryz.prog (((w2.alloc o).drewN k).alloc (.cells #[iv x.kind, iv x.int, .slice x.A x.list.length x.c, iv x.block, eSm, eSm, nilS, nilS] 56)) = .ok (.slice (some ⟨gg, 0, none⟩) (h.list.length + 1) c) w4 ∧
      Apd b p w g S h x steps seed err (((w2.alloc o).drewN k).alloc (.cells #[iv x.kind, iv x.int, .slice x.A x.list.length x.c, iv x.block, eSm, eSm, nilS, nilS] 56)) gg c w4 := by
  obtain ⟨g3, e1, e2, e3, m3, c3, r3⟩ := ha.hm
  have gW : w2.grownBy (((w2.alloc o).drewN k).alloc (.cells #[iv x.kind, iv x.int, .slice x.A x.list.length x.c, iv x.block, eSm, eSm, nilS, nilS] 56)) none := ((grown_alloc w2 o _).trans (grown_drewN _ k _)).trans (grown_alloc _ _ _)
  have hsz : ((w2.alloc o).drewN k).heap.size = w2.heap.size + 1 := by show (w2.alloc o).heap.size = _; simp
  have hb : ∀ (j : Nat) u, ([x].flatMap AV.cs)[j]? = some u → (((w2.alloc o).drewN k).alloc (.cells #[iv x.kind, iv x.int, .slice x.A x.list.length x.c, iv x.block, eSm, eSm, nilS, nilS] 56)).cell? ⟨w2.heap.size + 1, j, none⟩ = some u := fun j u hu => by
    have h8 : j < 8 := by
      rcases Nat.lt_or_ge j 8 with h' | h'
      · exact h'
      · rw [List.getElem?_eq_none (by rw [flat8]; simpa using h')] at hu; cases hu
    have := box8 ((w2.alloc o).drewN k) x j h8
    rw [hsz, Nat.zero_add] at this
    rw [this]
    simpa using hu
  have gA : w.grownBy (((w2.alloc o).drewN k).alloc (.cells #[iv x.kind, iv x.int, .slice x.A x.list.length x.c, iv x.block, eSm, eSm, nilS, nilS] 56)) (some b.rb) := ha.hgr.trans (grown_weak gW _)
  generalize (((w2.alloc o).drewN k).alloc (.cells #[iv x.kind, iv x.int, .slice x.A x.list.length x.c, iv x.block, eSm, eSm, nilS, nilS] 56)) = W at *
  have hhW := (hh.only hm gA).clip
  have hxW := hx.only hm gA
  have mW := m3.keep gW.os gW.tape gW.output gW.size w2.heap.size (by intro h; omega) fun i hi _ _ => gW.block i hi (by simp)
  have rW := r3.keep (gW.block _ r3.lt (by simp))
  obtain ⟨_, w4, hrun, gg, c, rfl, hgg, hrow, hgr⟩ := grow_run hhW (w2.heap.size + 1) 1 (by omega) (M := [x]) rfl (by omega) hb hl (by omega) 47
  refine ⟨gg, c, w4, hrun, fun i hi => hgr.block i hi (by simp), ?_⟩
  have hgl := (World.ownsRow.lt hrow gg rfl).2
  obtain ⟨m4, c4⟩ := mW.grow hgr gg hgg hgl (.loc g3.F.length ((h.list ++ [x]).length * 8))
  have hel : ∀ y ∈ h.list ++ [x], LRd b.B g3.tag W y.A y.c y.list := fun y hy => by
    rw [e3]
    rcases List.mem_append.1 hy with h' | h'
    · exact hhW.hr y h'
    · rw [List.mem_singleton] at h'; subst h'; exact hxW
  have hle : (h.list ++ [x]).length = h.list.length + 1 := by simp
  have hcm : c ≤ 9223372036854775807 := by
    rcases hrow.2 with ⟨e, _⟩ | ⟨g2, cap, cur, e, _, _, _, hmx, _⟩
    · cases e
    · cases e; unfold maxLen at hmx; omega
  have hf := FOk.grow (d := g3.F.length) (bl := h.block) (at_ := 0) mW hgr hel hgg hcm (by rw [hle]; exact hrow)
  have hcall := call_any b p ⟨h.block, 0, some ⟨gg, 0, none⟩, c, h.list ++ [x]⟩ w4 _ steps seed false err m4 (rW.keep (hgr.block _ rW.lt (by simp))) hf rfl (by show g3.F.length ≤ _; rw [e2]; exact hn)
  rw [show (Fr.mk h.block 0 (some ⟨gg, 0, none⟩) c (h.list ++ [x])).L.length = h.list.length + 1 from hle] at hcall
  rw [hle] at c4
  refine hcall.mono ?_
  rintro e w5 ⟨rfl, g5, k1, k2, k3, k4, k5⟩
  exact EffP.mk k1 ((c3.trans (Ch.grown gW)).trans (c4.trans k2)) k5 (by rw [k3]; show ers g3.S = _; rw [e1]) (by rw [k4]; show (g3.F ++ _).map Fr.er = _; rw [e2]; simp [Fr.er])
theorem op_new1 {o : Oper} {a : Act} {w : World} {m : Nat} {x : Tmp} {v : AV} (hs : w.heap.size = m) (hd : o.dst.isSome = true) (ho : o.op = .buildSlice 47 1 #[(0, .tmp x)]) (h : a.eval (.tmp x) = v.v) : (execOp a.eval o).run Tryz.prog w = .ok (nx o (.slice (some ⟨m, 0, none⟩) 1 1)) (w.alloc (.cells #[iv v.kind, iv v.int, .slice v.A v.list.length v.c, iv v.block, eSm, eSm, nilS, nilS] 56)) := by
  subst hs
  rw [nx_some hd]
  unfold AV.v at h
  generalize a.eval = ρ at h ⊢
  obtain ⟨d, op, t, ps, af, gu⟩ := o
  simp only at ho
  subst ho
  go_simp
set_option maxRecDepth 100000 in
set_option maxHeartbeats 2000000 in
theorem apply_ok (b : Bl) (p : Prg) (op xa xb : Int) (name : T) (w : World) (g : Gh) (S : List AV) (h x : AV) (steps seed err : Int) (hm : Mem b w g) (hR : RB b p w g.sv g.fv steps seed false err) (hn : g.S.length ≤ 1000000) (hS : g.S = S ++ [h] ++ [x]) (hk : h.kind = 4) (hn2 : g.F.length ≤ 1000000) (hl : h.list.length ≤ 1000000) :
    Calls Tryz.prog 134 #[.pointer (some ⟨b.rb, 0, none⟩), .agg #[iv op, iv xa, iv xb, tv name]] w (EffP b p w g (.ok ⟨ers S, g.F.map Fr.er ++ [⟨h.block, 0, ers h.list ++ [x.er]⟩], seed, false⟩) steps err) := by
  have hlen : g.S.length = S.length + 2 := by rw [hS]; simp
  have H1 := Lib.hid (any_one b p w g (S ++ [h]) x steps seed err hm hR hn hS)
  have hh := hm.sr h (by rw [hS]; simp)
  have hx := hm.sr x (by rw [hS]; simp)
  have C2 : ∀ o w1, One b p w g o (S ++ [h]) steps seed err w1 → Calls Tryz.prog 138 #[.pointer (some ⟨b.rb, 0, none⟩), .int .i64 4] (w1.alloc (.cells #[iv x.kind, iv x.int, .slice x.A x.list.length x.c, iv x.block, eSm, eSm, nilS, nilS] 56)) fun e w' => e = .returned h.v ∧ Apl b p w g S x steps seed err w1 w' := fun o w1 ⟨_, h1, g2, e1, e2, e3, e4, h2, h3, h4⟩ => by
    refine (one_any b p w1 g2 S h 4 steps seed err h2 h4 (by rw [e1]; simp; omega) e1 hk _).mono ?_
    rintro e w2 ⟨rfl, k1, k2, g3, f1, f2, f3, f4, m3, c3, r3⟩
    exact ⟨rfl, k1, heap_ltM k1, h1.trans k2, g3, f1, by rw [f2, e2], by rw [f4, e4], m3, h3.trans c3, r3⟩
  have H2 := Lib.hid C2
  have RUN := Lib.hid (fun w1 w2 (ha : Apl b p w g S x steps seed err w1 w2) o k => apl_run ha hh hx hm hn2 hl o k)
  have hhc := hh.hc
  have hh0 := hh.h0
  clear C2 hm hR hn hS hk hn2 hl hlen hh hx
  have e1 := AV.v.eq_1 h
  have e2 := AV.v.eq_1 x
  rw [e2] at H1
  rw [e1] at H2
  clear e1 e2
  go_enter Tryz.func134, Tryz.ntmps134
  go_wp2_with (first | (go_at_call 145; refine (H1.out _).mono ?_; rintro e w1 ⟨rfl, k1⟩; have K1 := Lib.hid k1; clear k1) | (go_at_call 138; refine (H2.out _ _ K1.out).mono ?_; rintro e w2 ⟨rfl, k2⟩; have K2 := Lib.hid k2; clear k2))
  obtain ⟨gg, c, w4, hrun, hapd⟩ := RUN.out _ _ K2.out (.cells #[iv h.kind, iv h.int, .slice h.A h.list.length h.c, iv h.block, eSm, eSm, nilS, nilS] 56) 1
  have CALL := Lib.hid hapd.call
  have HRUN := Lib.hid hrun
  have hbx := K2.out.hx
  have hbl := K2.out.hlt
  have bo := box8 w2 h
  have b4 : ∀ i, i < 8 → (w2.alloc (.cells #[iv h.kind, iv h.int, .slice h.A h.list.length h.c, iv h.block, eSm, eSm, nilS, nilS] 56)).cell? ⟨w1.heap.size, 0 + i, none⟩ = x.cs[i]? := fun i hi => by
    rw [World.cell?_of_block (w := w2) (Below.heap_alloc _ _ _ hbl)]
    simp only [World.cell?, hbx]
    simp [AV.cs]
  have b4' : ∀ i, i < 8 → (((w2.alloc (.cells #[iv h.kind, iv h.int, .slice h.A h.list.length h.c, iv h.block, eSm, eSm, nilS, nilS] 56)).drewN 1).alloc (.cells #[iv x.kind, iv x.int, .slice x.A x.list.length x.c, iv x.block, eSm, eSm, nilS, nilS] 56)).cell? ⟨w1.heap.size, 0 + i, none⟩ = x.cs[i]? := fun i hi => by
    rw [World.cell?_of_block (w := (w2.alloc (.cells #[iv h.kind, iv h.int, .slice h.A h.list.length h.c, iv h.block, eSm, eSm, nilS, nilS] 56)).drewN 1) (Below.heap_alloc _ _ _ (by show w1.heap.size < (w2.alloc _).heap.size; simp; omega))]
    exact b4 i hi
  have bn : ∀ i, i < 8 → (((w2.alloc (.cells #[iv h.kind, iv h.int, .slice h.A h.list.length h.c, iv h.block, eSm, eSm, nilS, nilS] 56)).drewN 1).alloc (.cells #[iv x.kind, iv x.int, .slice x.A x.list.length x.c, iv x.block, eSm, eSm, nilS, nilS] 56)).cell? ⟨w2.heap.size, 0 + i, none⟩ = h.cs[i]? := fun i hi => by
    rw [World.cell?_of_block (w := (w2.alloc (.cells #[iv h.kind, iv h.int, .slice h.A h.list.length h.c, iv h.block, eSm, eSm, nilS, nilS] 56)).drewN 1) (Below.heap_alloc _ _ _ (by show w2.heap.size < (w2.alloc _).heap.size; simp))]
    exact bo i hi
  have bl4 : ∀ i, i < 8 → w4.cell? ⟨w2.heap.size, 0 + i, none⟩ = h.cs[i]? := fun i hi => by
    rw [World.cell?_of_block (hapd.old _ (by simp; omega))]
    exact bn i hi
  have ba4 : ∀ i, i < 8 → w4.cell? ⟨w1.heap.size, 0 + i, none⟩ = x.cs[i]? := fun i hi => by
    rw [World.cell?_of_block (hapd.old _ (by simp; omega))]
    exact b4' i hi
  clear hapd hrun hbx
  refine wp_phaseT [false, false, false, false, false, false, false, true, true] [[], [7], [7, 8]] [Value.pointer (some ⟨b.rb, 0, none⟩), Value.pointer (some ⟨w2.heap.size, 3, none⟩), iv h.block, Value.pointer (some ⟨w2.heap.size, 2, none⟩), .slice h.A h.list.length h.c, .slice h.A h.list.length h.list.length, x.v, .slice (some ⟨w2.heap.size + 1, 0, none⟩) 1 1, .slice (some ⟨gg, 0, none⟩) (h.list.length + 1) c] [_, (((w2.alloc (.cells #[iv h.kind, iv h.int, .slice h.A h.list.length h.c, iv h.block, eSm, eSm, nilS, nilS] 56)).drewN 1).alloc (.cells #[iv x.kind, iv x.int, .slice x.A x.list.length x.c, iv x.block, eSm, eSm, nilS, nilS] 56)), w4] 2 9 (by decide) (by kernel_rfl) (by kernel_rfl) (by kernel_rfl) (by kernel_rfl) rfl (by kernel_rfl) (fun _ => by kernel_rfl) (fun _ => by kernel_rfl) rfl rfl ⟨?_, ?_, ?_, ?_, ?_, ?_, ?_, ?_, ?_, trivial⟩ rfl (by kernel_rfl) ?_
  · intro kk aa hk E
    have h0 : aa.eval (.tmp 0) = Value.pointer (some ⟨b.rb, 0, none⟩) := (E 0 (by kernel_rfl)).trans (by kernel_rfl)
    exact obl_pure (by kernel_rfl) rfl hk fun w => op_move rfl rfl h0
  · intro kk aa hk E
    have h5 : aa.eval (.tmp 5) = Value.pointer (some ⟨w2.heap.size, 0, none⟩) := (E 5 (by kernel_rfl)).trans (by kernel_rfl)
    exact obl_pure (by kernel_rfl) rfl hk fun w => op_fa (k := 3) rfl rfl rfl h5
  · intro kk aa hk E
    have h11 : aa.eval (.tmp 11) = Value.pointer (some ⟨w2.heap.size, 3, none⟩) := (E 11 (by kernel_rfl)).trans (by kernel_rfl)
    refine obl_read (ks := [0, 1, 2]) (by kernel_rfl) (by kernel_rfl) rfl hk ⟨?_, ?_, ?_, trivial⟩
    · intro w' hw; cases hw; exact op_load1M rfl (by decide) rfl h11 (bo 3 (by omega))
    · intro w' hw; cases hw; exact op_load1M rfl (by decide) rfl h11 (bn 3 (by omega))
    · intro w' hw; cases hw; exact op_load1M rfl (by decide) rfl h11 (bl4 3 (by omega))
  · intro kk aa hk E
    have h5 : aa.eval (.tmp 5) = Value.pointer (some ⟨w2.heap.size, 0, none⟩) := (E 5 (by kernel_rfl)).trans (by kernel_rfl)
    exact obl_pure (by kernel_rfl) rfl hk fun w => op_fa (k := 2) rfl rfl rfl h5
  · intro kk aa hk E
    have h13 : aa.eval (.tmp 13) = Value.pointer (some ⟨w2.heap.size, 2, none⟩) := (E 13 (by kernel_rfl)).trans (by kernel_rfl)
    refine obl_read (ks := [0, 1, 2]) (by kernel_rfl) (by kernel_rfl) rfl hk ⟨?_, ?_, ?_, trivial⟩
    · intro w' hw; cases hw; exact op_load1M rfl (by decide) rfl h13 (bo 2 (by omega))
    · intro w' hw; cases hw; exact op_load1M rfl (by decide) rfl h13 (bn 2 (by omega))
    · intro w' hw; cases hw; exact op_load1M rfl (by decide) rfl h13 (bl4 2 (by omega))
  · intro kk aa hk E
    have h14 : aa.eval (.tmp 14) = .slice h.A h.list.length h.c := (E 14 (by kernel_rfl)).trans (by kernel_rfl)
    refine obl_call (ks := [0, 1]) (by kernel_rfl) (by kernel_rfl) rfl hk ⟨?_, ?_, trivial⟩
    · intro w' hw; cases hw; exact op_call55 rfl h14 hhc hh0
    · intro w' hw; cases hw; exact op_call55 rfl h14 hhc hh0
  · intro kk aa hk E
    have h4 : aa.eval (.tmp 4) = Value.pointer (some ⟨w1.heap.size, 0, none⟩) := (E 4 (by kernel_rfl)).trans (by kernel_rfl)
    refine obl_read (ks := [0]) (by kernel_rfl) (by kernel_rfl) rfl hk ⟨?_, trivial⟩
    · intro w' hw; cases hw; exact op_load54 (vs := x.cs) rfl rfl rfl h4 b4
  · intro kk aa hk E
    have h16 : aa.eval (.tmp 16) = x.v := (E 16 (by kernel_rfl)).trans (by kernel_rfl)
    exact obl_write (ks := [0]) (by kernel_rfl) (by kernel_rfl) hk ⟨⟨1, _, _, by kernel_rfl, rfl, rfl, op_new1 (v := x) (by show (w2.alloc _).heap.size = _; simp) rfl rfl h16⟩, trivial⟩
  · intro kk aa hk E
    have h15 : aa.eval (.tmp 15) = .slice h.A h.list.length h.list.length := (E 15 (by kernel_rfl)).trans (by kernel_rfl)
    have h17 : aa.eval (.tmp 17) = .slice (some ⟨w2.heap.size + 1, 0, none⟩) 1 1 := (E 17 (by kernel_rfl)).trans (by kernel_rfl)
    exact obl_write (ks := [1]) (by kernel_rfl) (by kernel_rfl) hk ⟨⟨2, _, _, by kernel_rfl, rfl, rfl, op_append rfl (.tmp 15) (.tmp 17) 47 rfl _ _ h15 h17 HRUN.out⟩, trivial⟩
  intro af haf
  simp only [List.take_succ_cons, List.take_zero, finA, Act.put, List.setIfInBounds_toArray, List.set_cons_succ, List.set_cons_zero] at haf
  subst haf
  simp only [List.drop_succ_cons, List.drop_zero]
  go_wp2_with (go_at_call 132; refine CALL.out.mono ?_; intro e w5 k5; obtain ⟨rfl, k6⟩ := id k5; have K5 := Lib.hid k5; clear k5 k6)
  exact bodyPost_ret (v := .tuple #[]) (results_none rfl _ _ _) rfl K5.out
end Go.Proofs.YtgboboljgcfggaaGreatDoor
namespace Go.Proofs.YtgboboljgcfggaaGreatDoor
open Go.RowKit
theorem two_le {w : World} {tag : Nat → Tag} {k0 d hi hi' : Nat} (hk0 : tag k0 = .loc d hi) (hle : hi ≤ hi') : ∀ i, i < w.heap.size → (tag i).le (upT tag k0 (.loc d hi') i) := fun i _ => by
  by_cases e : i = k0
  · subst e; rw [hk0, upT_at]; exact ⟨hi', rfl, hle⟩
  · rw [upT_ne _ _ e]; exact Tag.le_refl _
theorem two_cells {B : Nat} {w w' : World} {tag : Nat → Tag} {fb k0 d hi : Nat} (ht : tag fb = .own) (hBf : B ≤ fb) (hk0 : tag k0 = .loc d hi) (hk0B : B ≤ k0) (hc0 : ∀ p : Addr, p.block = k0 → p.off < hi → w'.cell? p = w.cell? p)
    (hk : ∀ k, k < w.heap.size → k ≠ fb → k ≠ k0 → w'.heap[k]? = w.heap[k]?) : ∀ p : Addr, p.block < w.heap.size → sta B tag p → w'.cell? p = w.cell? p := fun p hp hs => by
  by_cases e : p.block = k0
  · rcases hs with h1 | h1 | ⟨lo, sz, h1, _⟩ | ⟨d, hi2, h1, h2⟩
    · omega
    · rw [e, hk0] at h1; cases h1
    · rw [e, hk0] at h1; cases h1
    · rw [e, hk0] at h1; cases h1; exact hc0 p e h2
  · refine World.cell?_of_block (w := w) (hk _ hp (fun e2 => ?_) e)
    rcases hs with h1 | h1 | ⟨lo, sz, h1, _⟩ | ⟨d, hi2, h1, _⟩
    · omega
    · rw [e2, ht] at h1; cases h1
    · rw [e2, ht] at h1; cases h1
    · rw [e2, ht] at h1; cases h1
theorem Mem.two {b : Bl} {w w' : World} {g : Gh} (h : Mem b w g) (os : w'.os = w.os) (tape : w'.tape = w.tape) (output : w'.output = w.output) (hs : w.heap.size ≤ w'.heap.size) {G : List Fr} {f f' : Fr} {fb k0 hi hi' : Nat} {cur : Array Value} (hF : g.F = G ++ [f])
    (ht : g.tag fb = .own) (hcur : w.heap[fb]? = some (.cells cur 158 (0, 0))) (hBf : b.B ≤ fb) (hk0 : g.tag k0 = .loc G.length hi) (hk0B : b.B ≤ k0) (hk0l : k0 < w.heap.size) (hle : hi ≤ hi') (hc0 : ∀ p : Addr, p.block = k0 → p.off < hi → w'.cell? p = w.cell? p)
    (hk : ∀ k, k < w.heap.size → k ≠ fb → k ≠ k0 → w'.heap[k]? = w.heap[k]?) (hsv : ∀ k, g.sv.ownBlock = some k → k ≠ fb ∧ k ≠ k0) (fr : w'.ownsRow b.B 158 3 g.fv (G ++ [f']).length ((G ++ [f']).flatMap Fr.cs)) (hf : FOk b.B (upT g.tag k0 (.loc G.length hi')) w' G.length f') :
    Mem b w' { g with tag := upT g.tag k0 (.loc G.length hi'), F := G ++ [f'] } ∧ Ch w g w' { g with tag := upT g.tag k0 (.loc G.length hi'), F := G ++ [f'] } := by
  have hB := h.hs
  have tg : ∀ i, i ≠ k0 → upT g.tag k0 (.loc G.length hi') i = g.tag i := fun i hi => upT_ne _ _ hi
  have own : ∀ {i : Nat}, g.tag i = .own → upT g.tag k0 (.loc G.length hi') i = .own := fun {i} hi => by rw [tg i (fun e => by subst e; rw [hk0] at hi; cases hi), hi]
  have ok : ∀ {i : Nat} {o : Obj}, w.heap[i]? = some o → i ≠ fb → i ≠ k0 → w'.heap[i]? = some o := fun {i o} h1 h2 h3 => (hk i (heap_ltM h1) h2 h3).trans h1
  have nfb : ∀ {i : Nat} {o : Obj}, w.heap[i]? = some o → (∀ c, o ≠ .cells c 158 (0, 0)) → i ≠ fb := fun {i o} h1 h2 e => by subst e; rw [hcur] at h1; exact h2 cur (Option.some.inj h1).symm
  have nk0 : ∀ {i : Nat}, g.tag i = .own → i ≠ k0 := fun {i} hi e => by subst e; rw [hk0] at hi; cases hi
  have le : ∀ i, i < w.heap.size → (g.tag i).le (upT g.tag k0 (.loc G.length hi') i) := fun i _ => by
    by_cases e : i = k0
    · subst e; rw [hk0, upT_at]; exact ⟨hi', rfl, hle⟩
    · rw [tg i e]; exact Tag.le_refl _
  have cells : ∀ p : Addr, p.block < w.heap.size → sta b.B g.tag p → w'.cell? p = w.cell? p := fun p hp hs => by
    by_cases e : p.block = k0
    · rcases hs with h1 | h1 | ⟨lo, sz, h1, _⟩ | ⟨d, hi2, h1, h2⟩
      · omega
      · rw [e, hk0] at h1; cases h1
      · rw [e, hk0] at h1; cases h1
      · rw [e, hk0] at h1; cases h1; exact hc0 p e h2
    · refine World.cell?_of_block (w := w) (hk _ hp (fun e2 => ?_) e)
      rcases hs with h1 | h1 | ⟨lo, sz, h1, _⟩ | ⟨d, hi2, h1, _⟩
      · omega
      · rw [e2, ht] at h1; cases h1
      · rw [e2, ht] at h1; cases h1
      · rw [e2, ht] at h1; cases h1
  obtain ⟨es, clk, m1, m2⟩ := h.mo
  refine ⟨{ os := os.trans h.os, tape := tape.trans h.tape, output := output.trans h.output, hs := Nat.le_trans h.hs hs, old := fun i hi => (hk i (by omega) (by omega) (by omega)).trans (h.old i hi), lo := fun i hi => by show upT g.tag k0 _ i = _; rw [tg i (by omega)]; exact h.lo i hi, new := fun i hi => by show upT g.tag k0 _ i = _; rw [tg i (by omega)]; exact h.new i (by omega), rt := own h.rt, rbb := h.rbb, et := own h.et, eo := ok h.eo (nfb h.eo (by simp)) (nk0 h.et), tt := own h.tt, to := ok h.to (nfb h.to (by simp)) (nk0 h.tt), mt := own h.mt, mbb := h.mbb, mo := ⟨es, clk, ok m1 (nfb m1 (by simp)) (nk0 h.mt), m2⟩, st := row_keep h.st fun i cur' e1 e2 => hk i (heap_ltM e2) (hsv i e1).1 (hsv i e1).2, stt := fun i e => own (h.stt i e), fr := fr, frt := fun i e => own (h.frt i e), sr := fun x hx => (h.sr x hx).mono hs le cells, fl := ?_, rm := ?_, ra := h.ra }, ⟨os, tape, output, hs, fun i hi hno => hk i hi (fun e => by subst e; rw [ht] at hno; cases hno) (fun e => by subst e; rw [hk0] at hno; cases hno), le⟩⟩
  · intro d f2 hd
    simp only [] at hd
    rcases Nat.lt_or_ge d G.length with h1 | h1
    · rw [List.getElem?_append_left h1] at hd
      refine (h.fl d f2 (by rw [hF, List.getElem?_append_left h1]; exact hd)).mono hs le cells fun i hi2 hB' hi' ht' => ?_
      have e1 : i ≠ k0 := fun e => by subst e; rw [hk0] at ht'; cases ht'; omega
      exact ⟨by show upT g.tag k0 _ i = _; rw [tg i e1, ht'], hk i hi' (fun e => by subst e; rw [ht] at ht'; cases ht') e1⟩
    · rw [List.getElem?_append_right h1] at hd
      have hd0 : d - G.length = 0 := by
        rcases Nat.lt_or_ge (d - G.length) 1 with h2 | h2
        · omega
        · rw [List.getElem?_eq_none (by simpa using h2)] at hd; cases hd
      rw [hd0] at hd
      simp at hd
      subst hd
      rw [show d = G.length by omega]
      exact hf
  · intro r hr
    have q := h.rm r hr
    obtain ⟨cur', q1, q2⟩ := q.a
    have q3 := q.at_
    have e1 : r.ab ≠ k0 := fun e => by rw [e, hk0] at q3; cases q3
    have e2 : r.ab ≠ fb := fun e => by rw [e, ht] at q3; cases q3
    exact { q with o := ok q.o (nfb q.o (by simp)) (nk0 q.ot), ot := own q.ot, a := ⟨cur', ok q1 e2 e1, q2⟩, at_ := by show upT g.tag k0 _ r.ab = _; rw [tg _ e1]; exact q.at_ }
def BindP (b : Bl) (p : Prg) (w : World) (g : Gh) (G : List Fr) (f : Fr) (M : List AV) (steps seed : Int) (done : Bool) (err : Int) (e : Ending) (w' : World) : Prop :=
  e = .returned (.tuple #[]) ∧ ∃ g' f', Mem b w' g' ∧ Ch w g w' g' ∧ RB b p w' g'.sv g'.fv steps seed done err ∧ g'.S = g.S ∧ g'.F = G ++ [f'] ∧ f'.er = { f.er with L := f.er.L ++ ers M }
theorem bind_mem {b : Bl} {p : Prg} {W : World} {g : Gh} {G : List Fr} {f : Fr} {steps seed : Int} {done : Bool} {err : Int} (hm : Mem b W g) (hR : RB b p W g.sv g.fv steps seed done err) (hF : g.F = G ++ [f]) {fb c ft : Nat} (ht : Top b W g f fb c ft) (hne : b.rb ≠ fb)
    {M : List AV} {k m : Nat} (hM : M.length = m) (hpos : 0 < m) (hk : ∀ (j : Nat) u, (M.flatMap AV.cs)[j]? = some u → W.cell? ⟨k, j, none⟩ = some u) (hel : ∀ x ∈ M, LRd b.B g.tag W x.A x.c x.list) (hn : f.L.length ≤ 1000000) (hm2 : m ≤ 1000000) :
    ∃ gg c' w2, (Builtin.append_ #[47, 47] 33 #[.slice f.A f.L.length f.c, .slice (some ⟨k, 0, none⟩) m m]).run Tryz.prog W = .ok (.slice (some ⟨gg, 0, none⟩) (f.L.length + m) c') w2 ∧ w2.cell? ⟨fb, ft + 2, none⟩ = some (.slice f.A f.L.length f.c) ∧ w2.frozen? ⟨fb, ft + 2, none⟩ = false ∧
      BindP b p W g G f M steps seed done err (.returned (.tuple #[])) (w2.setCell ⟨fb, ft + 2, none⟩ (.slice (some ⟨gg, 0, none⟩) (f.L.length + m) c')) := by
  subst hM
  have hok := hm.top hF
  have hlen : (f.L ++ M).length = f.L.length + M.length := by simp
  have hel2 : ∀ x ∈ f.L ++ M, LRd b.B g.tag W x.A x.c x.list := fun x hx => by
    rcases List.mem_append.1 hx with h | h
    · exact hok.l.hr x h
    · exact hel x h
  have her : ∀ gg c', (Fr.mk f.block f.at_ (some ⟨gg, 0, none⟩) c' (f.L ++ M)).er = { f.er with L := f.er.L ++ ers M } := fun gg c' => by simp [Fr.er]
  by_cases hcap : f.c < f.L.length + M.length
  · obtain ⟨_, w2, hrun, gg, c', rfl, hgg, hrow, hgr⟩ := grow_run hok.l k M.length hcap rfl hpos hk hn hm2 47
    have hgl := (World.ownsRow.lt hrow gg rfl).2
    obtain ⟨m4, c4⟩ := hm.grow hgr gg hgg hgl (.loc G.length ((f.L ++ M).length * 8))
    have hcm : c' ≤ 9223372036854775807 := by
      rcases hrow.2 with ⟨e, _⟩ | ⟨g2, cap, cur, e, _, _, _, hmx, _⟩
      · cases e
      · cases e; unfold maxLen at hmx; omega
    have hf := FOk.grow (d := G.length) (bl := f.block) (at_ := f.at_) hm hgr hel2 hgg hcm (by rw [hlen]; exact hrow)
    have hb : w2.heap[fb]? = W.heap[fb]? := hgr.block _ ht.hlt (by simp)
    obtain ⟨m5, c5⟩ := m4.setTop (f' := ⟨f.block, f.at_, some ⟨gg, 0, none⟩, c', f.L ++ M⟩) hF ht.hv (i := 2) (u := .slice (some ⟨gg, 0, none⟩) (f.L.length + M.length) c') (by simp [Fr.cs]) hf
    rw [show (({ g with tag := upT g.tag gg (.loc G.length ((f.L ++ M).length * 8)) } : Gh).F.length - 1) * 3 = ft from ht.hft.symm] at m5 c5
    refine ⟨gg, c', w2, hrun, (World.cell?_of_block (w := W) hb).trans (ht.hc 2 (by omega)), (World.frozen?_of_block (w := W) hb).trans (ht.fz _), rfl, _, _, m5, c4.trans c5, (hR.keep (hgr.block _ hR.lt (by simp))).keep (Below.heap_setCell _ _ _ _ hne), rfl, rfl, her _ _⟩
  · rcases hok.sp with h | ⟨k0, hA, hkB, htag, hrow0⟩
    · omega
    · obtain ⟨i0, hi, hz0, hz1, hz2⟩ := info_parts info54
      have hnew : ∀ (j : Nat) u, (M.flatMap AV.cs)[j]? = some u → W.cell? ((⟨k, 0, none⟩ : Addr).add j) = some u := fun j u hu => by
        have : ((⟨k, 0, none⟩ : Addr).add j) = ⟨k, j, none⟩ := by unfold Addr.add; split <;> simp [*]
        rw [this]
        exact hk j u hu
      rw [hA] at hrow0
      obtain ⟨w2, hrun, hrow, hgr⟩ := run_append_fits (P := Tryz.prog) W b.B 47 47 56 i0 8 Tryz.underlying47 hi hz1 k0 f.L.length f.c (f.L.flatMap AV.cs) hrow0 ⟨k, 0, none⟩ M.length M.length (M.flatMap AV.cs) (flat8 M) hnew (flat_one M) (by omega)
      have hk0l := (World.ownsRow.lt hrow0 k0 rfl).2
      obtain ⟨cur, hcur⟩ := ht.hcur
      have hfk : fb ≠ k0 := fun e => by have := ht.htg; rw [e, htag] at this; cases this
      have hb : w2.heap[fb]? = W.heap[fb]? := hgr.block _ ht.hlt (by simpa using hfk)
      have hst := hm.fr
      rw [ht.hv] at hst
      have hst2 := row_keep (w' := w2) hst fun i cur' e1 e2 => by
        have : i = fb := by simpa [Value.ownBlock] using e1.symm
        subst this
        exact hb
      obtain ⟨r1, _⟩ := World.ownsRow.stored hst2 (ft + 2) (.slice (some ⟨k0, 0, none⟩) (f.L.length + M.length) f.c)
      have key : (G ++ [(Fr.mk f.block f.at_ (some ⟨k0, 0, none⟩) f.c (f.L ++ M))]).flatMap Fr.cs = (g.F.flatMap Fr.cs).set (ft + 2) (.slice (some ⟨k0, 0, none⟩) (f.L.length + M.length) f.c) := by
        rw [ht.hft, hF]
        have : (G ++ [f]).length - 1 = G.length := by simp
        rw [this]
        exact flat_setM Fr.cs 3 Fr.cs_len (by simp [Fr.cs]) G
      have hlf : (G ++ [(Fr.mk f.block f.at_ (some ⟨k0, 0, none⟩) f.c (f.L ++ M))]).length = g.F.length := by rw [hF]; simp
      have hw3 : (w2.setCell ⟨fb, ft + 2, none⟩ (.slice (some ⟨k0, 0, none⟩) (f.L.length + M.length) f.c)).heap[k0]? = w2.heap[k0]? := Below.heap_setCell _ _ _ _ (Ne.symm hfk)
      have hrow3 := row_keep (w' := w2.setCell ⟨fb, ft + 2, none⟩ (.slice (some ⟨k0, 0, none⟩) (f.L.length + M.length) f.c)) hrow fun i cur' e1 _ => by
        have : i = k0 := by simpa [Value.ownBlock] using e1.symm
        subst this
        exact hw3
      have hpre : ∀ p : Addr, p.block = k0 → p.off < f.L.length * 8 → (w2.setCell ⟨fb, ft + 2, none⟩ (.slice (some ⟨k0, 0, none⟩) (f.L.length + M.length) f.c)).cell? p = W.cell? p := fun q hq ho => by
        rw [World.cell?_of_block (w := w2) (by rw [hq]; exact hw3)]
        obtain ⟨qb, qo, qs⟩ := q
        simp only at hq ho
        subst hq
        cases qs with
        | some s =>
          obtain ⟨cur1, hc1⟩ : ∃ cur1, W.heap[qb]? = some (.cells cur1 56 (0, 0)) := by
            rcases hrow0.2 with ⟨e, _⟩ | ⟨g2, cap, cur, e, _, hg, _⟩
            · cases e
            · cases e; exact ⟨_, hg⟩
          obtain ⟨cur2, hc2⟩ : ∃ cur2, w2.heap[qb]? = some (.cells cur2 56 (0, 0)) := by
            rcases hrow.2 with ⟨e, _⟩ | ⟨g2, cap, cur, e, _, hg, _⟩
            · cases e
            · cases e; exact ⟨_, hg⟩
          simp [World.cell?, hc1, hc2]
        | none =>
          rw [World.ownsRow.cellAt hrow _ (by omega), World.ownsRow.cellAt hrow0 _ ho, List.getElem?_append_left (by rw [flat8]; exact ho)]
      have hs2 := hgr.size
      have hrest : ∀ i, i < W.heap.size → i ≠ fb → i ≠ k0 → (w2.setCell ⟨fb, ft + 2, none⟩ (.slice (some ⟨k0, 0, none⟩) (f.L.length + M.length) f.c)).heap[i]? = W.heap[i]? := fun i hi h1 h2 => (Below.heap_setCell _ _ _ _ h1).trans (hgr.block _ hi (by simpa using h2))
      have hf : FOk b.B (upT g.tag k0 (.loc G.length ((f.L ++ M).length * 8))) (w2.setCell ⟨fb, ft + 2, none⟩ (.slice (some ⟨k0, 0, none⟩) (f.L.length + M.length) f.c)) G.length (Fr.mk f.block f.at_ (some ⟨k0, 0, none⟩) f.c (f.L ++ M)) := by
        refine ⟨.mk (by show (f.L ++ M).length ≤ f.c; omega) hok.l.hm (fun e => by cases e) (fun a e => by cases e; simp; exact Nat.lt_of_lt_of_le hk0l hs2) (fun a lo sz e ht' => by cases e; simp at ht') (fun a e j x hj i v hi => ?_) (fun x hx' => (hel2 x hx').mono (by simp; exact hs2) (two_le htag (by rw [hlen]; omega)) (two_cells ht.htg ht.hB htag hkB hpre hrest)), fun a lo sz e ht' => by cases e; simp at ht', .inr ⟨k0, rfl, hkB, by simp, ?_⟩⟩
        · cases e
          have hj' : j < (f.L ++ M).length := by
            rcases Nat.lt_or_ge j (f.L ++ M).length with h' | h'
            · exact h'
            · rw [List.getElem?_eq_none h'] at hj; cases hj
          have hi8 : i < 8 := by
            rcases Nat.lt_or_ge i 8 with h' | h'
            · exact h'
            · rw [List.getElem?_eq_none (by rw [AV.cs_len]; exact h')] at hi; cases hi
          have ha : ((⟨k0, 0, none⟩ : Addr).add (j * 8 + i)) = ⟨k0, j * 8 + i, none⟩ := by
            by_cases e0 : j * 8 + i = 0
            · rw [e0]; rfl
            · rw [fld_add _ _ e0]; simp
          rw [ha]
          refine ⟨?_, .inr (.inr (.inr ⟨G.length, (f.L ++ M).length * 8, by simp, by show j * 8 + i < (f.L ++ M).length * 8; omega⟩))⟩
          rw [World.ownsRow.cellAt hrow3 _ (by omega), ← List.flatMap_append, flat_atM AV.cs 8 AV.cs_len hi8 _ j hj]
          exact hi
        · simp only [hlen, List.flatMap_append]
          exact hrow3
      have hsz3 : W.heap.size ≤ (w2.setCell ⟨fb, ft + 2, none⟩ (.slice (some ⟨k0, 0, none⟩) (f.L.length + M.length) f.c)).heap.size := by simp; exact hs2
      have hrR := hR.keep (w' := w2.setCell ⟨fb, ft + 2, none⟩ (.slice (some ⟨k0, 0, none⟩) (f.L.length + M.length) f.c)) (hrest _ hR.lt hne fun e => by have := hm.rt; rw [e, htag] at this; cases this)
      refine ⟨k0, f.c, w2, by rw [hA]; exact hrun, (World.cell?_of_block (w := W) hb).trans (ht.hc 2 (by omega)), (World.frozen?_of_block (w := W) hb).trans (ht.fz _), ?_⟩
      have o1 : (w2.setCell ⟨fb, ft + 2, none⟩ (.slice (some ⟨k0, 0, none⟩) (f.L.length + M.length) f.c)).os = W.os := hgr.os
      have o2 : (w2.setCell ⟨fb, ft + 2, none⟩ (.slice (some ⟨k0, 0, none⟩) (f.L.length + M.length) f.c)).tape = W.tape := hgr.tape
      have o3 : (w2.setCell ⟨fb, ft + 2, none⟩ (.slice (some ⟨k0, 0, none⟩) (f.L.length + M.length) f.c)).output = W.output := hgr.output
      have hsf : ∀ i, g.sv.ownBlock = some i → i ≠ fb := fun i e e' => by
        subst e'
        rcases hm.st.2 with ⟨e2, _⟩ | ⟨g2, cap2, cur2, e2, _, hg2, _⟩
        · rw [e2] at e; cases e
        · rw [e2] at e
          have : i = g2 := by simpa [Value.ownBlock] using e.symm
          subst this
          rw [hcur] at hg2
          simp at hg2
      generalize w2.setCell ⟨fb, ft + 2, none⟩ (.slice (some ⟨k0, 0, none⟩) (f.L.length + M.length) f.c) = w3 at *
      obtain ⟨m5, c5⟩ := hm.two (w' := w3) (f' := (Fr.mk f.block f.at_ (some ⟨k0, 0, none⟩) f.c (f.L ++ M))) o1 o2 o3 hsz3 hF ht.htg hcur ht.hB htag hkB hk0l (by rw [hlen]; omega) hpre hrest (fun i e => ⟨hsf i e, fun e' => by have := hm.stt i e; rw [e', htag] at this; cases this⟩) (by rw [hlf, key, ht.hv]; exact r1) hf
      exact ⟨rfl, _, _, m5, c5, hrR, rfl, rfl, her _ _⟩
end Go.Proofs.YtgboboljgcfggaaGreatDoor
namespace Go.Proofs.YtgboboljgcfggaaGreatDoor
open Go.RowKit
set_option maxRecDepth 100000 in
set_option maxHeartbeats 1000000 in
theorem bind_any (b : Bl) (p : Prg) (w : World) (g : Gh) (G : List Fr) (f : Fr) (M : List AV) (k m : Nat) (steps seed : Int) (done : Bool) (err : Int) (hm : Mem b w g) (hR : RB b p w g.sv g.fv steps seed done err) (hF : g.F = G ++ [f]) (hn : g.F.length ≤ 1000000)
    (hM : M.length = m) (hpos : 0 < m) (hk : ∀ (j : Nat) u, (M.flatMap AV.cs)[j]? = some u → w.cell? ⟨k, j, none⟩ = some u) (hel : ∀ x ∈ M, LRd b.B g.tag w x.A x.c x.list) (hn2 : f.L.length ≤ 1000000) (hm2 : m ≤ 1000000) :
    Calls Tryz.prog 144 #[.pointer (some ⟨b.rb, 0, none⟩), .slice (some ⟨k, 0, none⟩) m m] w (BindP b p w g G f M steps seed done err) := by
  obtain ⟨fb, c, ft, ht⟩ := hm.isTop hF
  obtain ⟨cur, hcur⟩ := ht.hcur
  have hne := fb_ne hR hcur
  have hl : g.F.length = G.length + 1 := by rw [hF]; simp
  have C1 := top_mem b p w g steps seed done err fb c hR ht.hv (by omega) hn
  rw [← ht.hft] at C1
  have BM := fun q => bind_mem (hm.drewN q) (show RB b p (w.drewN q) g.sv g.fv steps seed done err from hR) hF (ht.at (w' := w.drewN q) rfl rfl rfl rfl) hne hM hpos hk (fun x hx => (hel x hx).mono (w := w) (w' := w.drewN q) (Nat.le_refl _) (fun _ _ => Tag.le_refl _) (fun _ _ _ => rfl)) hn2 hm2
  have q2 := ht.hc 2 (by omega)
  simp [Fr.cs] at q2
  have W : ∀ q e w', BindP b p (w.drewN q) g G f M steps seed done err e w' → BindP b p w g G f M steps seed done err e w' := fun q e w' ⟨h1, g', f', h2, h3, h4⟩ => ⟨h1, g', f', h2, (Ch.grown (grown_drewN w q none)).trans h3, h4⟩
  have H1 := Lib.hid C1
  have HB := Lib.hid BM
  have HW := Lib.hid W
  clear C1 BM W hm hR hF hn hM hpos hk hel hn2 hm2 hcur ht hl hne
  go_enter Tryz.func144, Tryz.ntmps144
  go_wp2_with (first | (go_at_call 106; refine H1.out.mono ?_; rintro e w1 ⟨rfl, q, rfl⟩; obtain ⟨gg, c', w2, run, cc, ff, fin⟩ := HB.out q; have RUN := Lib.hid run; have FIN := Lib.hid (HW.out _ _ _ fin); clear run fin) | (at_builtin; refine list_own _ rfl (.tmp 11) (.tmp 12) 47 rfl _ _ (fun v' w' => v' = .slice (some ⟨gg, 0, none⟩) (f.L.length + m) c' ∧ w' = w2) rfl rfl ⟨_, _, RUN.out, rfl, rfl⟩ ?_; rintro v' w' ⟨rfl, rfl⟩))
  exact bodyPost_ret (v := .tuple #[]) (results_none rfl _ _ _) rfl FIN.out
end Go.Proofs.YtgboboljgcfggaaGreatDoor
namespace Go.Proofs.YtgboboljgcfggaaGreatDoor
open Go.RowKit
theorem bindEff (b : Bl) (p : Prg) (w W : World) (g g2 : Gh) (S : List AV) (G : List Fr) (f : Fr) (M : List AV) (k m : Nat) (steps seed err : Int) (hm : Mem b W g2) (hc : Ch w g W g2) (hR : RB b p W g2.sv g2.fv steps seed false err) (hS : g2.S = S) (hF : g2.F = G ++ [f]) (hn : g2.F.length ≤ 1000000)
    (hM : M.length = m) (hpos : 0 < m) (hk : ∀ (j : Nat) u, (M.flatMap AV.cs)[j]? = some u → W.cell? ⟨k, j, none⟩ = some u) (hel : ∀ x ∈ M, LRd b.B g2.tag W x.A x.c x.list) (hn2 : f.L.length ≤ 1000000) (hm2 : m ≤ 1000000) :
    Calls Tryz.prog 144 #[.pointer (some ⟨b.rb, 0, none⟩), .slice (some ⟨k, 0, none⟩) m m] W (EffP b p w g (.ok ⟨ers S, G.map Fr.er ++ [{ f.er with L := f.er.L ++ ers M }], seed, false⟩) steps err) := by
  refine (bind_any b p W g2 G f M k m steps seed false err hm hR hF hn hM hpos hk hel hn2 hm2).mono ?_
  rintro e w' ⟨rfl, g', f', h1, h2, h3, h4, h5, h6⟩
  exact EffP.mk h1 (hc.trans h2) h3 (by rw [h4, hS]) (by rw [h5]; simp [h6])
theorem cell1 (W : World) (x : AV) (j : Nat) (u : Value) (h : ([x].flatMap AV.cs)[j]? = some u) : (W.alloc (.cells #[iv x.kind, iv x.int, .slice x.A x.list.length x.c, iv x.block, eSm, eSm, nilS, nilS] 56)).cell? ⟨W.heap.size, j, none⟩ = some u := by
  have hj : j < 8 := by
    rcases Nat.lt_or_ge j 8 with h' | h'
    · exact h'
    · rw [List.getElem?_eq_none (by simpa [AV.cs] using h')] at h; cases h
  have := box8 W x j hj
  rw [Nat.zero_add] at this
  rw [this]
  simpa using h
theorem oneD_any (b : Bl) (p : Prg) (w : World) (g : Gh) (S : List AV) (x : AV) (steps seed err : Int) (hm : Mem b w g) (hR : RB b p w g.sv g.fv steps seed false err) (hn : g.S.length ≤ 1000000) (h : g.S = S ++ [x]) (o : Obj) :
    Calls Tryz.prog 145 #[.pointer (some ⟨b.rb, 0, none⟩)] (w.alloc o).drew fun e w' => e = .returned x.v ∧ One b p w g o S steps seed err w' := by
  refine (pop_mem b p ((w.alloc o).drewN 1) g S x steps seed false err ((hm.alloc o).drewN 1) (hR.alloc o) h hn).mono ?_
  rintro e w' ⟨he, h1, sv1, h2, h3⟩
  have gW := ((grown_alloc w o (some b.rb)).trans (grown_drewN _ 1 _)).trans h1
  have hrb := hR.lt
  refine ⟨he, ?_, gW, { g with S := S, sv := sv1 }, rfl, rfl, rfl, rfl, h3, (Ch.only hm gW).retag rfl, h2⟩
  rw [h1.block _ (by show w.heap.size < (w.alloc o).heap.size; simp) (by intro e; have : w.heap.size = b.rb := Option.some.inj e; omega)]
  exact al_newM w o
set_option maxRecDepth 100000 in
set_option maxHeartbeats 1000000 in
theorem eff_bind_flt (b : Bl) (p : Prg) (x : Ins) (w : World) (g : Gh) (steps seed err : Int) (hm : Mem b w g) (hR : RB b p w g.sv g.fv steps seed false err) (h : g.S = []) :
    Calls Tryz.prog 143 #[x.val, .pointer (some ⟨b.tb, 0, none⟩)] w (EffP b p w g (.error 26) steps err) := by
  have C1 : ∀ o, Calls Tryz.prog 145 #[.pointer (some ⟨b.rb, 0, none⟩)] (w.alloc o).drew (EffP b p w g (.error 26) steps err) := fun o =>
    (pop_flt b p ((w.alloc o).drewN 1) g steps seed false err ((hm.alloc o).drewN 1) (hR.alloc o) h).mono fun _ _ h => EffP.flt ((grown_alloc w o _).trans (grown_drewN _ 1 _)) h
  have H1 := Lib.hid C1
  have ct := fun o => tb_cell' hm o
  clear C1 hm hR h
  unfold Ins.val
  go_enter Tryz.func143, Tryz.ntmps143
  go_wp2
  refine wp_region_any (by kernel_rfl) ?_
  try (change wpAny _ _ _ _ _ _ _ (World.drew _))
  refine wpAny_ready (rs := [0, 1]) (by kernel_rfl) (by simp) ?_
  refine AllReady.cons rfl (fun K hK => ?_) (AllReady.cons rfl (fun K hK => ?_) AllReady.nil)
  · go_simp
    refine hK _ _ ?_; clear hK K
    refine wpAny_ready (rs := [1]) (by kernel_rfl) (by simp) ?_
    refine AllReady.cons rfl (fun K hK => ?_) AllReady.nil
    go_simp
    refine hK _ _ ?_; clear hK K
    refine wpAny_ready (rs := [2]) (by kernel_rfl) (by simp) ?_
    refine AllReady.cons rfl (fun K hK => ?_) AllReady.nil
    go_simp
    go_at_call 145; refine (H1.out _).mono ?_; intro e w1 k1; obtain ⟨rfl, k2⟩ := id k1; exact ⟨rfl, k1⟩
  · go_simp
    refine hK _ _ ?_; clear hK K
    refine wpAny_ready (rs := [0, 2]) (by kernel_rfl) (by simp) ?_
    refine AllReady.cons rfl (fun K hK => ?_) (AllReady.cons rfl (fun K hK => ?_) AllReady.nil)
    · go_simp
      refine hK _ _ ?_; clear hK K
      refine wpAny_ready (rs := [2]) (by kernel_rfl) (by simp) ?_
      refine AllReady.cons rfl (fun K hK => ?_) AllReady.nil
      go_simp
      go_at_call 145; refine (H1.out _).mono ?_; intro e w1 k1; obtain ⟨rfl, k2⟩ := id k1; exact ⟨rfl, k1⟩
    · go_simp
      go_at_call 145; refine (H1.out _).mono ?_; intro e w1 k1; obtain ⟨rfl, k2⟩ := id k1; exact ⟨rfl, k1⟩
set_option maxRecDepth 100000 in
set_option maxHeartbeats 1000000 in
theorem eff_bind_ok (b : Bl) (p : Prg) (i : Ins) (w : World) (g : Gh) (S : List AV) (x : AV) (G : List Fr) (f : Fr) (steps seed err : Int) (hm : Mem b w g) (hR : RB b p w g.sv g.fv steps seed false err) (hn : g.S.length ≤ 1000000) (hS : g.S = S ++ [x]) (hF : g.F = G ++ [f]) (hn2 : g.F.length ≤ 1000000) (hl : f.L.length ≤ 1000000) :
    Calls Tryz.prog 143 #[i.val, .pointer (some ⟨b.tb, 0, none⟩)] w (EffP b p w g (.ok ⟨ers S, G.map Fr.er ++ [{ f.er with L := f.er.L ++ [x.er] }], seed, false⟩) steps err) := by
  have H1 := Lib.hid (oneD_any b p w g S x steps seed err hm hR hn hS)
  have hx := hm.sr x (by rw [hS]; simp)
  have C2 : ∀ o w1, One b p w g o S steps seed err w1 → Calls Tryz.prog 144 #[.pointer (some ⟨b.rb, 0, none⟩), .slice (some ⟨w1.heap.size, 0, none⟩) 1 1] (w1.alloc (.cells #[iv x.kind, iv x.int, .slice x.A x.list.length x.c, iv x.block, eSm, eSm, nilS, nilS] 56)) (EffP b p w g (.ok ⟨ers S, G.map Fr.er ++ [{ f.er with L := f.er.L ++ [x.er] }], seed, false⟩) steps err) := fun o w1 ⟨_, h1, g2, e1, e2, e3, e4, h2, h3, h4⟩ => by
    have hxW := hx.only hm (h1.trans (grown_weak (grown_alloc w1 (.cells #[iv x.kind, iv x.int, .slice x.A x.list.length x.c, iv x.block, eSm, eSm, nilS, nilS] 56) none) _))
    have := bindEff b p w _ g g2 S G f [x] w1.heap.size 1 steps seed err (h2.alloc (.cells #[iv x.kind, iv x.int, .slice x.A x.list.length x.c, iv x.block, eSm, eSm, nilS, nilS] 56)) (h3.trans (Ch.grown (grown_alloc w1 _ none))) (h4.alloc _) e1 (by rw [e2, hF]) (by rw [e2]; exact hn2) rfl (by decide) (cell1 w1 x) (fun y hy => by
      rw [List.mem_singleton] at hy; subst hy; rw [e4]; exact hxW) hl (by decide)
    simpa using this
  have H2 := Lib.hid C2
  have ct := fun o => tb_cell' hm o
  have CT := Lib.hid (fun o w1 (h : One b p w g o S steps seed err w1) => (show w1.cell? ⟨b.tb, 0, none⟩ = some (.pointer (some ⟨b.rb, 0, none⟩)) ∧ ∀ o', (w1.alloc o').cell? ⟨b.tb, 0, none⟩ = some (.pointer (some ⟨b.rb, 0, none⟩)) from by
    obtain ⟨_, _, g2, _, _, _, _, h2, _, _⟩ := h
    exact ⟨tb_cell h2, fun o' => tb_cell' h2 o'⟩))
  clear C2 hm hR hn hS hx hF hn2 hl
  rw [AV.v.eq_1 x] at H1
  unfold Ins.val
  go_enter Tryz.func143, Tryz.ntmps143
  go_wp2
  go_region_with ((first | (go_at_call 145; refine (H1.out _).mono ?_; rintro e w1 ⟨rfl, k1⟩; obtain ⟨c1, c2⟩ := CT.out _ _ k1; have K1 := Lib.hid k1; clear k1) | (go_at_call 144; refine (H2.out _ _ K1.out).mono ?_; intro e w2 k2; obtain ⟨rfl, k3⟩ := id k2; have K2 := Lib.hid k2; clear k2 k3)))
  all_goals exact bodyPost_ret (v := .tuple #[]) (results_none rfl _ _ _) rfl K2.out
end Go.Proofs.YtgboboljgcfggaaGreatDoor
namespace Go.Proofs.YtgboboljgcfggaaGreatDoor
open Go.RowKit
set_option maxRecDepth 100000 in
set_option maxHeartbeats 1000000 in
theorem divide_flt (b : Bl) (p : Prg) (op xa xb : Int) (name : T) (w : World) (g : Gh) (steps seed err : Int) (hm : Mem b w g) (hR : RB b p w g.sv g.fv steps seed false err) (hn : g.S.length ≤ 1000000) (h : popK 3 (ers g.S) = none) :
    Calls Tryz.prog 142 #[.pointer (some ⟨b.rb, 0, none⟩), .agg #[iv op, iv xa, iv xb, tv name]] w (EffP b p w g (.error 26) steps err) := by
  have H1 := Lib.hid (flt_any b p w g 3 steps seed err hm hR hn h)
  clear hm hR hn h
  go_enter Tryz.func142, Tryz.ntmps142
  go_wp2_with (go_at_call 138; refine (H1.out _).mono ?_; intro e w1 k1; obtain ⟨rfl, k2⟩ := id k1; have K1 := Lib.hid k1; clear k1 k2)
  exact ⟨rfl, K1.out⟩
set_option maxRecDepth 100000 in
set_option maxHeartbeats 1000000 in
theorem divide_nil (b : Bl) (p : Prg) (op xa xb : Int) (name : T) (w : World) (g : Gh) (S : List AV) (x : AV) (G : List Fr) (f : Fr) (steps seed err : Int) (hm : Mem b w g) (hR : RB b p w g.sv g.fv steps seed false err) (hn : g.S.length ≤ 1000000) (h : g.S = S ++ [x]) (hk : x.kind = 3) (hz : x.list.length = 0) (hF : g.F = G ++ [f]) (hn2 : g.F.length ≤ 1000000) :
    Calls Tryz.prog 142 #[.pointer (some ⟨b.rb, 0, none⟩), .agg #[iv op, iv xa, iv xb, tv name]] w (EffP b p w g (.ok ⟨ers S, G.map Fr.er ++ [{ f.er with at_ := xa }], seed, false⟩) steps err) := by
  obtain ⟨fb, c, ft, ht⟩ := hm.isTop hF
  obtain ⟨cur, hcur⟩ := ht.hcur
  have hne := fb_ne hR hcur
  have hl : g.F.length = G.length + 1 := by rw [hF]; simp
  have H1 := Lib.hid (one_any b p w g S x 3 steps seed err hm hR hn h hk)
  have TOP := Lib.hid (fun (o : Obj) (w' : World) (h : One b p w g o S steps seed err w') => h.top ht hne (by omega) hn2)
  have fin : ∀ o w' k, One b p w g o S steps seed err w' → EffP b p w g (.ok ⟨ers S, G.map Fr.er ++ [{ f.er with at_ := xa }], seed, false⟩) steps err (.returned (.tuple #[])) ((w'.drewN k).setCell ⟨fb, ft + 1, none⟩ (iv xa)) := fun o w' k ⟨_, h1, g2, e1, e2, e3, e4, h2, h3, h4⟩ => by
    have := EffP.jump (w := w) (g := g) (f := f) (a := xa) (h2.drewN k) (h3.trans (Ch.grown (grown_drewN w' k none))) h4 (by rw [e2, hF]) (by rw [e3, e2]; exact ht.hv) hne
    rw [e1, e2, ← ht.hft] at this
    exact this
  have FIN := Lib.hid fin
  clear fin hm hR hn h hk hF hn2 hl ht hcur
  rw [AV.v.eq_1 x, hz] at H1
  clear hz
  have hf := fld2
  go_enter Tryz.func142, Tryz.ntmps142
  go_wp2_with (go_at_call 138; refine (H1.out _).mono ?_; rintro e w1 ⟨rfl, k1⟩; obtain ⟨t1, t2, t3, t4⟩ := TOP.out _ _ k1; have T4 := Lib.hid t4; have c1 := t2 1 (by omega); simp [Fr.cs] at c1; have kb := k1.1; have b1 := Lib.cell_of_heap kb 1; simp at b1; have K1 := Lib.hid k1; clear k1 t4 t2 kb)
  go_region_with (go_at_call 106; refine (T4.out _).mono ?_; rintro e w2 ⟨rfl, k, rfl⟩)
  all_goals go_wp2
  all_goals exact bodyPost_ret (v := .tuple #[]) (results_none rfl _ _ _) rfl (FIN.out _ _ _ K1.out)
theorem LRd.tail {B : Nat} {tag : Nat → Tag} {w : World} {c : Nat} {a : Addr} {x : AV} {t : List AV} (h : LRd B tag w (some a) c (x :: t)) : LRd B tag w (some (a.add 8)) (c - 1) t := by
  have hc := h.hc
  have hm := h.hm
  simp only [List.length_cons] at hc
  refine .mk (by omega) (by omega) (fun e => by cases e) (fun p e => ?_) (fun p lo sz e ht => ?_) (fun p e j y hj i v hi => ?_) (fun y hy => h.hr y (by simp [hy]))
  · cases e; rw [add_block]; exact h.hb a rfl
  · cases e
    rw [add_block] at ht
    have := h.he a lo sz rfl ht
    simp only [List.length_cons] at this
    rw [fld_add a 8 (by omega)]
    show a.off + 8 + _ = _
    omega
  · cases e
    have := h.hx a rfl (j + 1) y (by simpa using hj) i v hi
    rw [add_add', show 8 + (j * 8 + i) = (j + 1) * 8 + i by omega]
    exact this
theorem op_index0' {o : Oper} {a : Act} {w : World} {x : Tmp} {q : Addr} {n c : Nat} (hd : o.dst.isSome = true) (ho : o.op = .indexAddr 47 (.tmp x) (.const (.int .i64 0))) (h : a.eval (.tmp x) = .slice (some q) n c) (hk : 0 < n) : (execOp a.eval o).run Tryz.prog w = .ok (nx o (.pointer (some q))) w := by
  rw [nx_some hd]
  unfold Act.eval at h
  obtain ⟨d, op, t, ps, af, gu⟩ := o
  simp only at ho
  subst ho
  have t2 : (0 : Int) < n := by omega
  have t3 : q.add 0 = q := by simp [Addr.add]
  go_simp
def c16 (u v : AV) : Obj := .cells #[iv u.kind, iv u.int, .slice u.A u.list.length u.c, iv u.block, eSm, eSm, nilS, nilS, iv v.kind, iv v.int, .slice v.A v.list.length v.c, iv v.block, eSm, eSm, nilS, nilS] 56
theorem op_new2 {o : Oper} {a : Act} {w : World} {m : Nat} {x y : Tmp} {u v : AV} (hs : w.heap.size = m) (hd : o.dst.isSome = true) (ho : o.op = .buildSlice 47 2 #[(0, .tmp x), (1, .tmp y)]) (h : a.eval (.tmp x) = u.v) (h' : a.eval (.tmp y) = v.v) : (execOp a.eval o).run Tryz.prog w = .ok (nx o (.slice (some ⟨m, 0, none⟩) 2 2)) (w.alloc (c16 u v)) := by
  subst hs
  rw [nx_some hd]
  unfold AV.v at h h'
  unfold c16
  generalize a.eval = ρ at h h' ⊢
  obtain ⟨d, op, t, ps, af, gu⟩ := o
  simp only at ho
  subst ho
  go_simp
theorem cell2 (W : World) (x y : AV) (j : Nat) (u : Value) (h : ([x, y].flatMap AV.cs)[j]? = some u) : (W.alloc (c16 x y)).cell? ⟨W.heap.size, j, none⟩ = some u := by
  have h1 := Lib.cell_of_heap (al_newM W (c16 x y)) j
  rw [h1]
  have e : [x, y].flatMap AV.cs = [iv x.kind, iv x.int, .slice x.A x.list.length x.c, iv x.block, eSm, eSm, nilS, nilS, iv y.kind, iv y.int, .slice y.A y.list.length y.c, iv y.block, eSm, eSm, nilS, nilS] := rfl
  rw [e] at h
  simpa using h
theorem div_call {b : Bl} {p : Prg} {w w1 W : World} {g : Gh} {o : Obj} {S : List AV} {G : List Fr} {f : Fr} {steps seed err : Int} (hm : Mem b w g) (h1 : One b p w g o S steps seed err w1) (hW : w1.grownBy W none) {u v : AV} (hu : LRd b.B g.tag w u.A u.c u.list) (hv : LRd b.B g.tag w v.A v.c v.list) (hF : g.F = G ++ [f]) (hn2 : g.F.length ≤ 1000000) (hl : f.L.length ≤ 1000000) :
    Calls Tryz.prog 144 #[.pointer (some ⟨b.rb, 0, none⟩), .slice (some ⟨W.heap.size, 0, none⟩) 2 2] (W.alloc (c16 u v)) (EffP b p w g (.ok ⟨ers S, G.map Fr.er ++ [{ f.er with L := f.er.L ++ [u.er, v.er] }], seed, false⟩) steps err) := by
  obtain ⟨_, h1, g2, e1, e2, e3, e4, h2, h3, h4⟩ := h1
  have gA : w1.grownBy (W.alloc (c16 u v)) none := hW.trans (grown_alloc W (c16 u v) none)
  have gB := h1.trans (grown_weak gA (some b.rb))
  have m2 := h2.keep gA.os gA.tape gA.output gA.size w1.heap.size (by intro h; omega) fun i hi _ _ => gA.block i hi (by simp)
  have := bindEff b p w _ g g2 S G f [u, v] W.heap.size 2 steps seed err m2 (h3.trans (Ch.grown gA)) (h4.keep (gA.block _ h4.lt (by simp))) e1 (by rw [e2, hF]) (by rw [e2]; exact hn2) rfl (by decide) (cell2 W u v) (fun y hy => by
    rw [e4]
    rcases List.mem_cons.1 hy with rfl | hy
    · exact hu.only hm gB
    · rw [List.mem_singleton] at hy; subst hy; exact hv.only hm gB) hl (by decide)
  simpa using this
end Go.Proofs.YtgboboljgcfggaaGreatDoor
namespace Go.Proofs.YtgboboljgcfggaaGreatDoor
open Go.RowKit
theorem LRd.hd8 {B : Nat} {tag : Nat → Tag} {w : World} {q : Addr} {c : Nat} {x : AV} {t : List AV} (h : LRd B tag w (some q) c (x :: t)) : C8 w q x := by
  obtain ⟨q', q1, hA, hq, hqb, p0, p1, p2, p3, p4, p5, p6, p7⟩ := h.at8 (j := 0) (x := x) rfl
  cases hA
  rw [show q.add (0 * 8) = q by simp [Addr.add]] at hq
  subst hq
  exact ⟨p0, p1, p2, p3, p4, p5, p6, p7⟩
set_option maxRecDepth 100000 in
set_option maxHeartbeats 1000000 in
theorem divide_one (b : Bl) (p : Prg) (op xa xb : Int) (name : T) (w : World) (g : Gh) (S : List AV) (x : AV) (G : List Fr) (f : Fr) (steps seed err : Int) (hm : Mem b w g) (hR : RB b p w g.sv g.fv steps seed false err) (hn : g.S.length ≤ 1000000) (h : g.S = S ++ [x]) (hk : x.kind = 3) (hd : AV) (hz : x.list = hd :: []) (hF : g.F = G ++ [f]) (hn2 : g.F.length ≤ 1000000) (hl : f.L.length ≤ 1000000) :
    Calls Tryz.prog 142 #[.pointer (some ⟨b.rb, 0, none⟩), .agg #[iv op, iv xa, iv xb, tv name]] w (EffP b p w g (.ok ⟨ers S, G.map Fr.er ++ [{ f.er with L := f.er.L ++ [hd.er, .mk 3 0 0 (ers [])] }], seed, false⟩) steps err) := by
  have hx := hm.sr x (by rw [h]; simp)
  rw [hz] at hx
  have hxc := hx.hc
  have hxm := hx.hm
  simp only [List.length_cons] at hxc
  obtain ⟨q, q1, hA, -⟩ := hx.at8 (j := 0) (x := hd) rfl
  rw [hA] at hx
  have hu := hx.hr hd (by simp)
  have hv : LRd b.B g.tag w (none) (0) [] := LRd.nil _ _ _
  have H1 := Lib.hid (one_any b p w g S x 3 steps seed err hm hR hn h hk)
  have DIV := Lib.hid (fun (o : Obj) (w1 W : World) (k : One b p w g o S steps seed err w1) (hW : w1.grownBy W none) => div_call (u := hd) (v := .mk 3 0 (none) (0) 0 []) hm k hW hu hv hF hn2 hl)
  have KEEP := Lib.hid (fun (o : Obj) (w1 W : World) (k : One b p w g o S steps seed err w1) (hW : w1.grownBy W none) => (hx.only hm (k.2.1.trans (grown_weak hW _))).hd8)
  clear hm hR hn h hk hF hn2 hl hx hu hv
  rw [AV.v.eq_1 x, hz, hA] at H1
  clear hz hA
  simp only [List.length_cons, List.length_nil] at H1
  have hf := fld2
  go_enter Tryz.func142, Tryz.ntmps142
  go_wp2_with (go_at_call 138; refine (H1.out _).mono ?_; rintro e w1 ⟨rfl, k1⟩; have K1 := Lib.hid k1; clear k1)
  have b8 : ∀ i, i < 8 → ((w1.alloc (.cells #[iv 3, iv 0, .slice none 0 0, iv 0, eSm, eSm, nilS, nilS] 56)).drewN 1).cell? ⟨w1.heap.size, 0 + i, none⟩ = (AV.mk 3 0 none 0 0 []).cs[i]? := box8 w1 (AV.mk 3 0 none 0 0 [])
  have kz := KEEP.out _ _ ((w1.alloc (.cells #[iv 3, iv 0, .slice none 0 0, iv 0, eSm, eSm, nilS, nilS] 56)).drewN 1) K1.out ((grown_alloc w1 _ none).trans (grown_drewN _ 1 none))
  have hsz : ((w1.alloc (.cells #[iv 3, iv 0, .slice none 0 0, iv 0, eSm, eSm, nilS, nilS] 56)).drewN 1).heap.size = w1.heap.size + 1 := by show (w1.alloc _).heap.size = _; simp
  have DC := Lib.hid (DIV.out _ _ ((w1.alloc (.cells #[iv 3, iv 0, .slice none 0 0, iv 0, eSm, eSm, nilS, nilS] 56)).drewN 1) K1.out ((grown_alloc w1 _ none).trans (grown_drewN _ 1 none)))
  rw [hsz] at DC
  refine wp_phaseT [false, false, false, false, false, true] [[], [5]] [Value.pointer (some ⟨b.rb, 0, none⟩), Value.slice (some q) 1 x.c, .pointer (some q), hd.v, (AV.mk 3 0 none 0 0 []).v, .slice (some ⟨w1.heap.size + 1, 0, none⟩) 2 2] [_, (((w1.alloc (.cells #[iv 3, iv 0, .slice none 0 0, iv 0, eSm, eSm, nilS, nilS] 56)).drewN 1).alloc (c16 hd (AV.mk 3 0 none 0 0 [])))] 1 6 (by decide) (by kernel_rfl) (by kernel_rfl) (by kernel_rfl) (by kernel_rfl) rfl (by kernel_rfl) (fun _ => by kernel_rfl) (fun _ => by kernel_rfl) rfl rfl ⟨?_, ?_, ?_, ?_, ?_, ?_, trivial⟩ rfl (by kernel_rfl) ?_
  · intro kk aa hk E
    have h0 : aa.eval (.tmp 0) = Value.pointer (some ⟨b.rb, 0, none⟩) := (E 0 (by kernel_rfl)).trans (by kernel_rfl)
    exact obl_pure (by kernel_rfl) rfl hk fun w => op_move rfl rfl h0
  · intro kk aa hk E
    have h4 : aa.eval (.tmp 4) = Value.slice (some q) 1 x.c := (E 4 (by kernel_rfl)).trans (by kernel_rfl)
    exact obl_pure (by kernel_rfl) rfl hk fun w => op_move rfl rfl h4
  · intro kk aa hk E
    have h26 : aa.eval (.tmp 26) = Value.slice (some q) 1 x.c := (E 26 (by kernel_rfl)).trans (by kernel_rfl)
    exact obl_pure (by kernel_rfl) rfl hk fun w => op_index0' rfl rfl h26 (by omega)
  · intro kk aa hk E
    have h27 : aa.eval (.tmp 27) = .pointer (some q) := (E 27 (by kernel_rfl)).trans (by kernel_rfl)
    refine obl_read (ks := [0]) (by kernel_rfl) (by kernel_rfl) rfl hk ⟨?_, trivial⟩
    · intro w' hw; cases hw; exact op_load8 rfl rfl h27 kz
  · intro kk aa hk E
    have h5 : aa.eval (.tmp 5) = Value.pointer (some ⟨w1.heap.size, 0, none⟩) := (E 5 (by kernel_rfl)).trans (by kernel_rfl)
    refine obl_read (ks := [0]) (by kernel_rfl) (by kernel_rfl) rfl hk ⟨?_, trivial⟩
    · intro w' hw; cases hw; exact op_load54 (vs := (AV.mk 3 0 none 0 0 []).cs) rfl rfl rfl h5 b8
  · intro kk aa hk E
    have h28 : aa.eval (.tmp 28) = hd.v := (E 28 (by kernel_rfl)).trans (by kernel_rfl)
    have h29 : aa.eval (.tmp 29) = (AV.mk 3 0 none 0 0 []).v := (E 29 (by kernel_rfl)).trans (by kernel_rfl)
    exact obl_write (ks := [0]) (by kernel_rfl) (by kernel_rfl) hk ⟨⟨1, _, _, by kernel_rfl, rfl, rfl, op_new2 (u := hd) (v := (AV.mk 3 0 none 0 0 [])) hsz rfl rfl h28 h29⟩, trivial⟩
  intro af haf
  simp only [List.take_succ_cons, List.take_zero, finA, Act.put, List.setIfInBounds_toArray, List.set_cons_succ, List.set_cons_zero] at haf
  subst haf
  simp only [List.drop_succ_cons, List.drop_zero]
  go_wp2_with (go_at_call 144; refine DC.out.mono ?_; intro e w5 k5; obtain ⟨rfl, k6⟩ := id k5; have K5 := Lib.hid k5; clear k5 k6)
  exact bodyPost_ret (v := .tuple #[]) (results_none rfl _ _ _) rfl K5.out
set_option maxRecDepth 100000 in
set_option maxHeartbeats 1000000 in
theorem divide_more (b : Bl) (p : Prg) (op xa xb : Int) (name : T) (w : World) (g : Gh) (S : List AV) (x : AV) (G : List Fr) (f : Fr) (steps seed err : Int) (hm : Mem b w g) (hR : RB b p w g.sv g.fv steps seed false err) (hn : g.S.length ≤ 1000000) (h : g.S = S ++ [x]) (hk : x.kind = 3) (hd : AV) (t : List AV) (hz : x.list = hd :: t) (ht : 0 < t.length) (htm : t.length ≤ 1000000) (hF : g.F = G ++ [f]) (hn2 : g.F.length ≤ 1000000) (hl : f.L.length ≤ 1000000) :
    Calls Tryz.prog 142 #[.pointer (some ⟨b.rb, 0, none⟩), .agg #[iv op, iv xa, iv xb, tv name]] w (EffP b p w g (.ok ⟨ers S, G.map Fr.er ++ [{ f.er with L := f.er.L ++ [hd.er, .mk 3 0 0 (ers t)] }], seed, false⟩) steps err) := by
  have hx := hm.sr x (by rw [h]; simp)
  rw [hz] at hx
  have hxc := hx.hc
  have hxm := hx.hm
  simp only [List.length_cons] at hxc
  obtain ⟨q, q1, hA, -⟩ := hx.at8 (j := 0) (x := hd) rfl
  rw [hA] at hx
  have hu := hx.hr hd (by simp)
  have hv : LRd b.B g.tag w (some (q.add 8)) (x.c - 1) t := hx.tail
  have H1 := Lib.hid (one_any b p w g S x 3 steps seed err hm hR hn h hk)
  have DIV := Lib.hid (fun (o : Obj) (w1 W : World) (k : One b p w g o S steps seed err w1) (hW : w1.grownBy W none) => div_call (u := hd) (v := .mk 3 0 (some (q.add 8)) (x.c - 1) 0 t) hm k hW hu hv hF hn2 hl)
  have KEEP := Lib.hid (fun (o : Obj) (w1 W : World) (k : One b p w g o S steps seed err w1) (hW : w1.grownBy W none) => (hx.only hm (k.2.1.trans (grown_weak hW _))).hd8)
  clear hm hR hn h hk hF hn2 hl hx hu hv
  rw [AV.v.eq_1 x, hz, hA] at H1
  clear hz hA
  simp only [List.length_cons] at H1
  obtain ⟨N, hN⟩ : ∃ N, N = t.length := ⟨_, rfl⟩
  rw [← hN] at H1 ht htm hxc
  have z1 : (((N + 1 : Nat) : Int) == 0) = false := by simp; omega
  have z2 : ((N : Int) + 1 == 0) = false := by simp; omega
  have z3 : (1 : Int) < (N : Int) + 1 := by omega
  have z4 : (1 : Int) ≤ (N : Int) + 1 := by omega
  have z5 : 1 ≤ N + 1 := by omega
  have z6 : N + 1 ≤ x.c := by omega
  have hf := fld2
  go_enter Tryz.func142, Tryz.ntmps142
  go_wp2_with (go_at_call 138; refine (H1.out _).mono ?_; rintro e w1 ⟨rfl, k1⟩; have K1 := Lib.hid k1; clear k1)
  have b8 : ∀ i, i < 8 → ((w1.alloc (.cells #[iv 3, iv 0, .slice (some ⟨q.block, q.off + 8, none⟩) t.length (x.c - 1), iv 0, eSm, eSm, nilS, nilS] 56)).drewN 1).cell? ⟨w1.heap.size, 0 + i, none⟩ = (AV.mk 3 0 (some (q.add 8)) (x.c - 1) 0 t).cs[i]? := box8 w1 (AV.mk 3 0 (some (q.add 8)) (x.c - 1) 0 t)
  have kz := KEEP.out _ _ ((w1.alloc (.cells #[iv 3, iv 0, .slice (some ⟨q.block, q.off + 8, none⟩) t.length (x.c - 1), iv 0, eSm, eSm, nilS, nilS] 56)).drewN 1) K1.out ((grown_alloc w1 _ none).trans (grown_drewN _ 1 none))
  have hsz : ((w1.alloc (.cells #[iv 3, iv 0, .slice (some ⟨q.block, q.off + 8, none⟩) t.length (x.c - 1), iv 0, eSm, eSm, nilS, nilS] 56)).drewN 1).heap.size = w1.heap.size + 1 := by show (w1.alloc _).heap.size = _; simp
  have DC := Lib.hid (DIV.out _ _ ((w1.alloc (.cells #[iv 3, iv 0, .slice (some ⟨q.block, q.off + 8, none⟩) t.length (x.c - 1), iv 0, eSm, eSm, nilS, nilS] 56)).drewN 1) K1.out ((grown_alloc w1 _ none).trans (grown_drewN _ 1 none)))
  rw [hsz] at DC
  refine wp_phaseT [false, false, false, false, false, true] [[], [5]] [Value.pointer (some ⟨b.rb, 0, none⟩), Value.slice (some q) (t.length + 1) x.c, .pointer (some q), hd.v, (AV.mk 3 0 (some (q.add 8)) (x.c - 1) 0 t).v, .slice (some ⟨w1.heap.size + 1, 0, none⟩) 2 2] [_, (((w1.alloc (.cells #[iv 3, iv 0, .slice (some ⟨q.block, q.off + 8, none⟩) t.length (x.c - 1), iv 0, eSm, eSm, nilS, nilS] 56)).drewN 1).alloc (c16 hd (AV.mk 3 0 (some (q.add 8)) (x.c - 1) 0 t)))] 1 6 (by decide) (by kernel_rfl) (by kernel_rfl) (by kernel_rfl) (by kernel_rfl) rfl (by kernel_rfl) (fun _ => by kernel_rfl) (fun _ => by kernel_rfl) rfl rfl ⟨?_, ?_, ?_, ?_, ?_, ?_, trivial⟩ rfl (by kernel_rfl) ?_
  · intro kk aa hk E
    have h0 : aa.eval (.tmp 0) = Value.pointer (some ⟨b.rb, 0, none⟩) := (E 0 (by kernel_rfl)).trans (by kernel_rfl)
    exact obl_pure (by kernel_rfl) rfl hk fun w => op_move rfl rfl h0
  · intro kk aa hk E
    have h4 : aa.eval (.tmp 4) = Value.slice (some q) (t.length + 1) x.c := (E 4 (by kernel_rfl)).trans (by kernel_rfl)
    exact obl_pure (by kernel_rfl) rfl hk fun w => op_move rfl rfl h4
  · intro kk aa hk E
    have h26 : aa.eval (.tmp 26) = Value.slice (some q) (t.length + 1) x.c := (E 26 (by kernel_rfl)).trans (by kernel_rfl)
    exact obl_pure (by kernel_rfl) rfl hk fun w => op_index0' rfl rfl h26 (by omega)
  · intro kk aa hk E
    have h27 : aa.eval (.tmp 27) = .pointer (some q) := (E 27 (by kernel_rfl)).trans (by kernel_rfl)
    refine obl_read (ks := [0]) (by kernel_rfl) (by kernel_rfl) rfl hk ⟨?_, trivial⟩
    · intro w' hw; cases hw; exact op_load8 rfl rfl h27 kz
  · intro kk aa hk E
    have h5 : aa.eval (.tmp 5) = Value.pointer (some ⟨w1.heap.size, 0, none⟩) := (E 5 (by kernel_rfl)).trans (by kernel_rfl)
    refine obl_read (ks := [0]) (by kernel_rfl) (by kernel_rfl) rfl hk ⟨?_, trivial⟩
    · intro w' hw; cases hw; exact op_load54 (vs := (AV.mk 3 0 (some (q.add 8)) (x.c - 1) 0 t).cs) rfl rfl rfl h5 b8
  · intro kk aa hk E
    have h28 : aa.eval (.tmp 28) = hd.v := (E 28 (by kernel_rfl)).trans (by kernel_rfl)
    have h29 : aa.eval (.tmp 29) = (AV.mk 3 0 (some (q.add 8)) (x.c - 1) 0 t).v := (E 29 (by kernel_rfl)).trans (by kernel_rfl)
    exact obl_write (ks := [0]) (by kernel_rfl) (by kernel_rfl) hk ⟨⟨1, _, _, by kernel_rfl, rfl, rfl, op_new2 (u := hd) (v := (AV.mk 3 0 (some (q.add 8)) (x.c - 1) 0 t)) hsz rfl rfl h28 h29⟩, trivial⟩
  intro af haf
  simp only [List.take_succ_cons, List.take_zero, finA, Act.put, List.setIfInBounds_toArray, List.set_cons_succ, List.set_cons_zero] at haf
  subst haf
  simp only [List.drop_succ_cons, List.drop_zero]
  go_wp2_with (go_at_call 144; refine DC.out.mono ?_; intro e w5 k5; obtain ⟨rfl, k6⟩ := id k5; have K5 := Lib.hid k5; clear k5 k6)
  exact bodyPost_ret (v := .tuple #[]) (results_none rfl _ _ _) rfl K5.out
end Go.Proofs.YtgboboljgcfggaaGreatDoor
namespace Go.Proofs.YtgboboljgcfggaaGreatDoor
open Go.RowKit
theorem AV.er_list (x : AV) : x.er.list = ers x.list := by cases x; simp [AV.er, MV.list, AV.list]
theorem AV.er_kind (x : AV) : x.er.kind = x.kind := by cases x; simp [AV.er, MV.kind, AV.kind]
theorem divide_any (b : Bl) (p : Prg) (op xa xb : Int) (name : T) (w : World) (g : Gh) (G : List Fr) (f : Fr) (steps seed err : Int) (hm : Mem b w g) (hR : RB b p w g.sv g.fv steps seed false err) (hn : g.S.length ≤ 1000000) (hF : g.F = G ++ [f]) (hn2 : g.F.length ≤ 1000000) (hl : f.L.length ≤ 1000000) (hx : ∀ x ∈ g.S, x.list.length ≤ 1000000) :
    Calls Tryz.prog 142 #[.pointer (some ⟨b.rb, 0, none⟩), .agg #[iv op, iv xa, iv xb, tv name]] w (EffP b p w g (match popK 3 (ers g.S) with
      | none => .error 26
      | some (S1, l) => match l.list with
        | [] => .ok ⟨S1, G.map Fr.er ++ [{ f.er with at_ := xa }], seed, false⟩
        | h :: t => .ok ⟨S1, G.map Fr.er ++ [{ f.er with L := f.er.L ++ [h, vList t] }], seed, false⟩) steps err) := by
  rcases snoc_cases g.S with h | ⟨S, x, h⟩
  · have hp : popK 3 (ers g.S) = none := by rw [h]; rfl
    rw [hp]
    exact divide_flt b p op xa xb name w g steps seed err hm hR hn hp
  · have hp : popK 3 (ers g.S) = if x.kind = 3 then some (ers S, x.er) else none := by
      rw [h, ers_append]
      show popK 3 (ers S ++ [x.er]) = _
      rw [popK_snoc, AV.er_kind]
    by_cases hk : x.kind = 3
    · rw [if_pos hk] at hp
      rw [hp]
      simp only [AV.er_list]
      cases hz : x.list with
      | nil => exact divide_nil b p op xa xb name w g S x G f steps seed err hm hR hn h hk (by rw [hz]; rfl) hF hn2
      | cons hd t =>
        have hxl := hx x (by rw [h]; simp)
        rw [hz] at hxl
        simp only [List.length_cons] at hxl
        cases t with
        | nil => exact divide_one b p op xa xb name w g S x G f steps seed err hm hR hn h hk hd hz hF hn2 hl
        | cons y t => exact divide_more b p op xa xb name w g S x G f steps seed err hm hR hn h hk hd (y :: t) hz (by simp) (by omega) hF hn2 hl
    · rw [if_neg hk] at hp
      rw [hp]
      exact divide_flt b p op xa xb name w g steps seed err hm hR hn hp
end Go.Proofs.YtgboboljgcfggaaGreatDoor
namespace Go.Proofs.YtgboboljgcfggaaGreatDoor
open Go.RowKit
theorem same_no {P : Program} {w : World} {a b : Addr} {v : Value} {cb : Array Value} {tb : TypeId} (hne : a.block ≠ b.block) (ha : w.cell? a = some v) (hb : w.heap[b.block]? = some (.cells cb tb (0, 0))) : (sameAddr a b).run P w = .ok false w := by
  unfold World.cell? at ha
  split at ha
  · rename_i c t f hh
    split at ha
    · cases ha
    · have hs : c.size ≠ 0 := by
        intro e
        rw [Array.getElem?_eq_none (by omega)] at ha
        cases ha
      have hfb : w.frozen? b = false := by simp [World.frozen?, hb]
      have hfb2 : ∀ n, w.frozen? ⟨b.block, n, none⟩ = false := fun n => by simp [World.frozen?, hb]
      simp [sameAddr, hne, hfb, hfb2, hh, hb, noView, viewAt, World.shape?, mayBeOne, stringish, hs]
      try (split <;> simp [hs])
  · cases ha
theorem same_at {P : Program} {w : World} {a b : Addr} (h : a.block = b.block) : (sameAddr a b).run P w = .ok (a == b) w := by
  simp [sameAddr, h]
theorem eq_run {w : World} {a b : Addr} {r : Bool} (h : (sameAddr a b).run Tryz.prog w = .ok r w) : (Op.equal 234 (.pointer (some a)) (.pointer (some b))).run Tryz.prog w = .ok r w := by
  have hp : Tryz.prog.underlying 234 = some (.pointer 56) := by kernel_rfl
  have hs : Tryz.t56.size ≠ 0 := by decide
  have hd : ∀ d : Nat, (Op.equalIn (d + 1) 234 (.pointer (some a)) (.pointer (some b))).run Tryz.prog w = .ok r w := fun d => by
    simp [Op.equalIn, run_underlying hp, sizeOf, hs, h]
  exact hd 9999
theorem find_ptr {w : World} {q : Addr} (eqv : Addr → Bool) : ∀ (es : List MapEntry) (i : Nat), (∀ e ∈ es, ∃ k, e.key = .pointer (some k) ∧ (sameAddr q k).run Tryz.prog w = .ok (eqv k) w) →
    (Instr.findAsking 234 (.pointer (some q)) es i).run Tryz.prog w = .ok (match es.findIdx? (fun e => match e.key with | .pointer (some k) => eqv k | _ => false) with | some j => (es[j]?).map fun e => (i + j, e.val) | none => none) w
  | [], i, _ => by simp [Instr.findAsking]
  | e :: es, i, h => by
    obtain ⟨k, hk, hs⟩ := h e (by simp)
    have ih := find_ptr eqv es (i + 1) (fun e' he => h e' (by simp [he]))
    have he := eq_run hs
    simp only [Instr.findAsking, hk, Sem.run_bind, he, Result.andThen_ok]
    cases hv : eqv k with
    | true => simp [List.findIdx?_cons, hk, hv]
    | false =>
      simp only [Bool.false_eq_true, if_false, ih, List.findIdx?_cons, hk, hv]
      cases hf : es.findIdx? (fun e => match e.key with | .pointer (some k) => eqv k | _ => false) with
      | none => simp
      | some j => simp [Nat.add_assoc, Nat.add_comm 1 j]
theorem findKey_ptr {w : World} {q : Addr} (eqv : Addr → Bool) (es : List MapEntry) (h : ∀ e ∈ es, ∃ k, e.key = .pointer (some k) ∧ (sameAddr q k).run Tryz.prog w = .ok (eqv k) w) :
    (Instr.findKey 234 (.pointer (some q)) es).run Tryz.prog w = .ok (match es.findIdx? (fun e => match e.key with | .pointer (some k) => eqv k | _ => false) with | some j => (es[j]?).map fun e => (j, e.val) | none => none) w := by
  have hp : Tryz.prog.underlying 234 = some (.pointer 56) := by kernel_rfl
  have hf := find_ptr eqv es 0 h
  simp only [Nat.zero_add] at hf
  cases es with
  | nil => simp [Instr.findKey, run_underlying hp, Result.andThen, Instr.findNow]
  | cons e l =>
    have hn : Instr.findNow (.pointer 56) (.pointer (some q)) (e :: l) 0 = none := by simp [Instr.findNow, Instr.sameNow]
    unfold Instr.findKey
    simp only [Sem.run_bind, run_underlying hp, Result.andThen_ok, hn]
    exact hf
theorem check_ptr (em : Bool) (q : Addr) (w : World) : (Instr.checkKey em 10000 234 (.pointer (some q))).run Tryz.prog w = .ok () w := by
  have hp : Tryz.prog.underlying 234 = some (.pointer 56) := by kernel_rfl
  have h : ∀ n, (Instr.checkKey em (n + 1) 234 (.pointer (some q))).run Tryz.prog w = .ok () w := fun n => by
    unfold Instr.checkKey
    simp [run_underlying hp]
  exact h 9999
def atK (eqv : Addr → Bool) (es : List MapEntry) : Option Nat := es.findIdx? (fun e => match e.key with | .pointer (some k) => eqv k | _ => false)
theorem lookup_ptr {w : World} {r : Nat} {es : Array MapEntry} {clk : Nat} {q : Addr} (eqv : Addr → Bool) (hb : w.heap[r]? = some (.map es clk)) (h : ∀ e ∈ es.toList, ∃ k, e.key = .pointer (some k) ∧ (sameAddr q k).run Tryz.prog w = .ok (eqv k) w) :
    (Instr.lookup 163 (.map (some r)) (.pointer (some q)) false).run Tryz.prog w = .ok (match atK eqv es.toList with | some j => (match es.toList[j]? with | some e => e.val | none => .pointer none) | none => .pointer none) w := by
  have hm : Tryz.prog.underlying 163 = some (.map 234 233) := by kernel_rfl
  have hz : (zeroValue 233).run Tryz.prog w = .ok (.pointer none) w := by kernel_rfl
  have hf := findKey_ptr eqv es.toList h
  unfold Instr.lookup
  simp only [Sem.run_bind, run_underlying hm, Result.andThen_ok, show (getObj r).run Tryz.prog w = .ok (.map es clk) w from by simp [getObj, Sem.run, hb], Sem.run_pure, check_ptr, hf]
  unfold atK
  cases hj : es.toList.findIdx? (fun e => match e.key with | .pointer (some k) => eqv k | _ => false) with
  | none => simp [hz]
  | some j =>
    cases he : es.toList[j]? with
    | none => simp [hz, he]
    | some e => simp [he]
theorem delete_ptr {w : World} {r : Nat} {es : Array MapEntry} {clk : Nat} {q : Addr} (ty : TypeId) (eqv : Addr → Bool) (hb : w.heap[r]? = some (.map es clk)) (h : ∀ e ∈ es.toList, ∃ k, e.key = .pointer (some k) ∧ (sameAddr q k).run Tryz.prog w = .ok (eqv k) w) {j : Nat} (hj : atK eqv es.toList = some j) (hlt : j < es.size) :
    (Builtin.delete_ #[163, 234] ty #[.map (some r), .pointer (some q)]).run Tryz.prog w = .ok (.tuple #[]) { w with heap := w.heap.setIfInBounds r (.map (es.eraseIdxIfInBounds j) clk) } := by
  have hm : Tryz.prog.underlying 163 = some (.map 234 233) := by kernel_rfl
  have hf := findKey_ptr eqv es.toList h
  have hg : (getObj r).run Tryz.prog w = .ok (.map es clk) w := by simp [getObj, Sem.run, hb]
  have hs : ∀ o, (setObj r o).run Tryz.prog w = .ok () { w with heap := w.heap.setIfInBounds r o } := fun o => by simp [setObj, Sem.run, hb]
  unfold atK at hj
  have he : es.toList[j]? = some es[j] := by simp [hlt]
  rw [hj] at hf
  simp only [he, Option.map_some] at hf
  simp [Builtin.delete_, run_underlying hm, hg, check_ptr, hf, hs, Result.andThen]
theorem delete_no {w : World} {r : Nat} {es : Array MapEntry} {clk : Nat} {q : Addr} (ty : TypeId) (eqv : Addr → Bool) (hb : w.heap[r]? = some (.map es clk)) (h : ∀ e ∈ es.toList, ∃ k, e.key = .pointer (some k) ∧ (sameAddr q k).run Tryz.prog w = .ok (eqv k) w) (hj : atK eqv es.toList = none) :
    (Builtin.delete_ #[163, 234] ty #[.map (some r), .pointer (some q)]).run Tryz.prog w = .ok (.tuple #[]) { w with heap := w.heap.setIfInBounds r (.map es clk) } := by
  have hm : Tryz.prog.underlying 163 = some (.map 234 233) := by kernel_rfl
  have hf := findKey_ptr eqv es.toList h
  have hg : (getObj r).run Tryz.prog w = .ok (.map es clk) w := by simp [getObj, Sem.run, hb]
  have hs : ∀ o, (setObj r o).run Tryz.prog w = .ok () { w with heap := w.heap.setIfInBounds r o } := fun o => by simp [setObj, Sem.run, hb]
  unfold atK at hj
  rw [hj] at hf
  simp [Builtin.delete_, run_underlying hm, hg, check_ptr, hf, hs, Result.andThen]
theorem update_new {w : World} {r : Nat} {es : Array MapEntry} {clk : Nat} {q : Addr} (v : Value) (eqv : Addr → Bool) (hb : w.heap[r]? = some (.map es clk)) (h : ∀ e ∈ es.toList, ∃ k, e.key = .pointer (some k) ∧ (sameAddr q k).run Tryz.prog w = .ok (eqv k) w) (hj : atK eqv es.toList = none) :
    (Instr.mapUpdate 163 (.map (some r)) (.pointer (some q)) v).run Tryz.prog w = .ok () { w with heap := w.heap.setIfInBounds r (.map (es.push { key := .pointer (some q), val := v, born := clk }) (clk + 1)) } := by
  have hm : Tryz.prog.underlying 163 = some (.map 234 233) := by kernel_rfl
  have hf := findKey_ptr eqv es.toList h
  have hg : (getObj r).run Tryz.prog w = .ok (.map es clk) w := by simp [getObj, Sem.run, hb]
  have hs : ∀ o, (setObj r o).run Tryz.prog w = .ok () { w with heap := w.heap.setIfInBounds r o } := fun o => by simp [setObj, Sem.run, hb]
  unfold atK at hj
  rw [hj] at hf
  simp [Instr.mapUpdate, run_underlying hm, hg, check_ptr, hf, hs, Result.andThen]
end Go.Proofs.YtgboboljgcfggaaGreatDoor
namespace Go.Proofs.YtgboboljgcfggaaGreatDoor
open Go.RowKit
theorem Mem.rooms {b : Bl} {w w' : World} {g : Gh} (h : Mem b w g) (os : w'.os = w.os) (tape : w'.tape = w.tape) (output : w'.output = w.output) (hs : w.heap.size ≤ w'.heap.size) {ab ro lo' sz : Nat} (hne : ab ≠ ro) (habB : b.B ≤ ab) (hroB : b.B ≤ ro) (habl : ab < w'.heap.size) (hrol : ro < w'.heap.size)
    (hab : ab < w.heap.size → ∃ lo, g.tag ab = .arr lo sz ∧ lo' ≤ lo) (hro : ro < w.heap.size → g.tag ro = .own ∧ ∃ cur, w.heap[ro]? = some (.cells cur 236 (0, 0)))
    (hc : ∀ p : Addr, p.block = ab → p.block < w.heap.size → sta b.B g.tag p → w'.cell? p = w.cell? p) (hk : ∀ k, k < w.heap.size → k ≠ b.mb → k ≠ ab → k ≠ ro → w'.heap[k]? = w.heap[k]?)
    (R' : List Rm) (hmo : ∃ es clk, w'.heap[b.mb]? = some (.map es clk) ∧ es.toList.map (fun e => (e.key, e.val)) = R'.map Rm.kv)
    (hrm : ∀ r ∈ R', ROk b.B (upT (upT g.tag ab (.arr lo' sz)) ro .own) w' r) (hra : R'.Pairwise fun r r' => r.ab ≠ r'.ab ∧ r.ro ≠ r'.ro) :
    Mem b w' { g with tag := upT (upT g.tag ab (.arr lo' sz)) ro .own, R := R' } ∧ Ch w g w' { g with tag := upT (upT g.tag ab (.arr lo' sz)) ro .own, R := R' } := by
  have hB := h.hs
  have hmB := h.mbb
  obtain ⟨es, clk, m1, m2⟩ := h.mo
  have tg : ∀ i, i ≠ ab → i ≠ ro → upT (upT g.tag ab (.arr lo' sz)) ro .own i = g.tag i := fun i h1 h2 => by rw [upT_ne _ _ h2, upT_ne _ _ h1]
  have ta : upT (upT g.tag ab (.arr lo' sz)) ro .own ab = .arr lo' sz := by rw [upT_ne _ _ hne, upT_at]
  have tr : upT (upT g.tag ab (.arr lo' sz)) ro .own ro = .own := upT_at _ _ _
  have nab : ∀ {i : Nat}, i < w.heap.size → (∀ lo, g.tag i ≠ .arr lo sz) → i ≠ ab := fun {i} hi ht e => by subst e; obtain ⟨lo, h1, _⟩ := hab hi; exact ht lo h1
  have own : ∀ {i : Nat}, g.tag i = .own → i < w.heap.size → upT (upT g.tag ab (.arr lo' sz)) ro .own i = .own := fun {i} hi hl => by
    by_cases e : i = ro
    · subst e; exact tr
    · rw [tg i (nab hl (fun lo => by rw [hi]; simp)) e, hi]
  have le : ∀ i, i < w.heap.size → (g.tag i).le (upT (upT g.tag ab (.arr lo' sz)) ro .own i) := fun i hi => by
    by_cases e : i = ab
    · subst e; obtain ⟨lo, h1, h2⟩ := hab hi; rw [h1, ta]; exact ⟨lo', rfl, h2⟩
    · by_cases e2 : i = ro
      · subst e2; rw [(hro hi).1, tr]; exact rfl
      · rw [tg i e e2]; exact Tag.le_refl _
  have nst : ∀ {p : Addr}, b.B ≤ p.block → g.tag p.block = .own → ¬ sta b.B g.tag p := fun {p} hp ht hs => by
    rcases hs with h1 | h1 | ⟨lo, sz, h1, _⟩ | ⟨d, hi2, h1, _⟩
    · omega
    · rw [ht] at h1; cases h1
    · rw [ht] at h1; cases h1
    · rw [ht] at h1; cases h1
  have cells : ∀ p : Addr, p.block < w.heap.size → sta b.B g.tag p → w'.cell? p = w.cell? p := fun p hp hs => by
    by_cases e : p.block = ab
    · exact hc p e hp hs
    · exact World.cell?_of_block (w := w) (hk _ hp (fun e2 => nst (by rw [e2]; exact hmB) (by rw [e2]; exact h.mt) hs) e (fun e2 => nst (by rw [e2]; exact hroB) (by rw [e2]; exact (hro (e2 ▸ hp)).1) hs))
  have keep : ∀ {i : Nat} {o : Obj}, w.heap[i]? = some o → (∀ e c, o ≠ .map e c) → (∀ c, o ≠ .cells c 236 (0, 0)) → g.tag i = .own → w'.heap[i]? = some o := fun {i o} h1 h2 h3 h4 => by
    refine (hk i (heap_ltM h1) (fun e => ?_) (nab (heap_ltM h1) (fun lo => by rw [h4]; simp)) (fun e => ?_)).trans h1
    · subst e; rw [m1] at h1; exact h2 _ _ (Option.some.inj h1).symm
    · subst e; obtain ⟨cur, h5⟩ := (hro (heap_ltM h1)).2; rw [h5] at h1; exact h3 _ (Option.some.inj h1).symm
  have olt : ∀ {i : Nat}, g.tag i = .own → i < w.heap.size := fun {i} hi => by
    rcases Nat.lt_or_ge i w.heap.size with h1 | h1
    · exact h1
    · rw [h.new i h1] at hi; cases hi
  have hem : b.eb ≠ b.mb := fun e => by
    have e1 := h.eo
    rw [e, m1] at e1
    simp only [Option.some.injEq, Obj.map.injEq] at e1
    rw [e1.1] at m2
    cases hR : g.R with
    | nil => rw [hR] at m2; simp [effs] at m2
    | cons r l => rw [hR] at m2; simp [effs, Rm.kv] at m2
  have heo : w'.heap[b.eb]? = some (.map (effs b.tb b.rb) 16) := by
    refine (hk _ (heap_ltM h.eo) hem (nab (heap_ltM h.eo) (fun lo => by rw [h.et]; simp)) (fun e => ?_)).trans h.eo
    obtain ⟨cur, h5⟩ := (hro (e ▸ heap_ltM h.eo)).2
    rw [← e, h.eo] at h5
    cases h5
  have hrow : ∀ {T sz2 : Nat} {v : Value} {n : Nat} {xs : List Value}, T ≠ 236 → (∀ k, v.ownBlock = some k → g.tag k = .own) → w.ownsRow b.B T sz2 v n xs → w'.ownsRow b.B T sz2 v n xs := fun {T sz2 v n xs} hT ht hr =>
    row_keep hr fun i cur e1 e2 => (keep e2 (by simp) (fun c e => by cases e; exact hT rfl) (ht i e1)).trans e2.symm
  refine ⟨{ os := os.trans h.os, tape := tape.trans h.tape, output := output.trans h.output, hs := Nat.le_trans h.hs hs, old := fun i hi => (hk i (by omega) (by omega) (by omega) (by omega)).trans (h.old i hi), lo := fun i hi => (tg i (by omega) (by omega)).trans (h.lo i hi), new := fun i hi => (tg i (by omega) (by omega)).trans (h.new i (by omega)), rt := own h.rt (olt h.rt), rbb := h.rbb, et := own h.et (heap_ltM h.eo), eo := heo, tt := own h.tt (heap_ltM h.to), to := keep h.to (by simp) (by simp) h.tt, mt := own h.mt (heap_ltM m1), mbb := h.mbb, mo := hmo, st := hrow (by decide) h.stt h.st, stt := fun i e => own (h.stt i e) (olt (h.stt i e)), fr := hrow (by decide) h.frt h.fr, frt := fun i e => own (h.frt i e) (olt (h.frt i e)), sr := fun x hx => (h.sr x hx).mono hs le cells, fl := fun d f hd => (h.fl d f hd).mono hs le cells fun i hi2 hB' hi' ht' => ?_, rm := hrm, ra := hra }, ⟨os, tape, output, hs, fun i hi hno => hk i hi (fun e => by subst e; rw [h.mt] at hno; cases hno) (fun e => by subst e; obtain ⟨lo, h1, _⟩ := hab hi; rw [h1] at hno; cases hno) (fun e => by subst e; rw [(hro hi).1] at hno; cases hno), le⟩⟩
  have e1 : i ≠ ab := nab hi' (fun lo => by rw [ht']; simp)
  have e2 : i ≠ ro := fun e => by subst e; rw [(hro hi').1] at ht'; cases ht'
  exact ⟨(tg i e1 e2).trans ht', hk i hi' (fun e => by subst e; rw [h.mt] at ht'; cases ht') e1 e2⟩
end Go.Proofs.YtgboboljgcfggaaGreatDoor
namespace Go.Proofs.YtgboboljgcfggaaGreatDoor
open Go.RowKit
def rIdx (q : Addr) (R : List Rm) : Option Nat := R.findIdx? fun r => q == (⟨r.ab, r.st * 8, none⟩ : Addr)
theorem atK_rooms (q : Addr) : ∀ (R : List Rm) (es : List MapEntry), es.map (fun e => (e.key, e.val)) = R.map Rm.kv → atK (fun k => q == k) es = rIdx q R
  | [], es, h => by
    have : es = [] := by simpa using h
    subst this
    rfl
  | r :: R, [], h => by simp at h
  | r :: R, e :: es, h => by
    simp only [List.map_cons, List.cons.injEq] at h
    have ih := atK_rooms q R es h.2
    unfold atK rIdx at ih ⊢
    have hk : e.key = .pointer (some ⟨r.ab, r.st * 8, none⟩) := (Prod.mk.inj h.1).1
    simp only [List.findIdx?_cons, hk, ih]
theorem rIdx_some {q : Addr} {R : List Rm} {j : Nat} (h : rIdx q R = some j) : ∃ r, R[j]? = some r ∧ q = ⟨r.ab, r.st * 8, none⟩ := by
  unfold rIdx at h
  rw [List.findIdx?_eq_some_iff_getElem] at h
  obtain ⟨h1, h2, _⟩ := h
  exact ⟨R[j], by simp [h1], by simpa using h2⟩
theorem rooms_keys {b : Bl} {w : World} {g : Gh} (h : Mem b w g) {es : List MapEntry} (hm : es.map (fun e => (e.key, e.val)) = g.R.map Rm.kv) {q : Addr} {v : Value} (hq : w.cell? q = some v) :
    ∀ e ∈ es, ∃ k, e.key = .pointer (some k) ∧ (sameAddr q k).run Tryz.prog w = .ok (q == k) w := fun e he => by
  have h1 : (e.key, e.val) ∈ g.R.map Rm.kv := by rw [← hm]; exact List.mem_map.2 ⟨e, he, rfl⟩
  obtain ⟨r, hr, h2⟩ := List.mem_map.1 h1
  refine ⟨⟨r.ab, r.st * 8, none⟩, (Prod.mk.inj h2).1.symm, ?_⟩
  obtain ⟨cur, c1, _⟩ := (h.rm r hr).a
  by_cases e1 : q.block = r.ab
  · exact same_at e1
  · have : (q == (⟨r.ab, r.st * 8, none⟩ : Addr)) = false := by
      apply Bool.eq_false_iff.2
      intro e2
      exact e1 (by rw [eq_of_beq e2])
    rw [this]
    exact same_no e1 hq c1
theorem map_erase {α β : Type} (f : α → β) : ∀ (l : List α) (j : Nat), (l.eraseIdx j).map f = (l.map f).eraseIdx j
  | [], _ => rfl
  | _ :: _, 0 => rfl
  | x :: l, j + 1 => by simp [map_erase f l j]
theorem kv_erase {R : List Rm} {es : Array MapEntry} (hm : es.toList.map (fun e => (e.key, e.val)) = R.map Rm.kv) (j : Nat) : (es.eraseIdxIfInBounds j).toList.map (fun e => (e.key, e.val)) = (R.eraseIdx j).map Rm.kv := by
  have : (es.eraseIdxIfInBounds j).toList = es.toList.eraseIdx j := by
    unfold Array.eraseIdxIfInBounds
    split
    · simp
    · rename_i h1
      rw [List.eraseIdx_of_length_le (by simpa using h1)]
  rw [this, map_erase, map_erase, hm]
theorem kv_push {R : List Rm} {es : Array MapEntry} (hm : es.toList.map (fun e => (e.key, e.val)) = R.map Rm.kv) (r : Rm) (clk : Nat) : (es.push { key := r.kv.1, val := r.kv.2, born := clk }).toList.map (fun e => (e.key, e.val)) = (R ++ [r]).map Rm.kv := by
  simp [hm]
end Go.Proofs.YtgboboljgcfggaaGreatDoor
namespace Go.Proofs.YtgboboljgcfggaaGreatDoor
open Go.RowKit
def mapw (w : World) (r : Nat) (es : Array MapEntry) (clk : Nat) : World := { w with heap := w.heap.setIfInBounds r (.map es clk) }
theorem mapw_size (w : World) (r : Nat) (es : Array MapEntry) (clk : Nat) : (mapw w r es clk).heap.size = w.heap.size := by simp [mapw]
theorem mapw_ne (w : World) (r : Nat) (es : Array MapEntry) (clk : Nat) {k : Nat} (h : k ≠ r) : (mapw w r es clk).heap[k]? = w.heap[k]? := by
  simp [mapw, Ne.symm h]
theorem mapw_at {w : World} {r : Nat} {es : Array MapEntry} {clk : Nat} (h : r < w.heap.size) : (mapw w r es clk).heap[r]? = some (.map es clk) := by
  simp [mapw, h]
theorem Mem.eb_mb {b : Bl} {w : World} {g : Gh} (h : Mem b w g) : b.eb ≠ b.mb := fun e => by
  obtain ⟨es, clk, m1, m2⟩ := h.mo
  have e1 := h.eo
  rw [e, m1] at e1
  simp only [Option.some.injEq, Obj.map.injEq] at e1
  rw [e1.1] at m2
  cases hR : g.R with
  | nil => rw [hR] at m2; simp [effs] at m2
  | cons r l => rw [hR] at m2; simp [effs, Rm.kv] at m2
theorem Mem.unroom {b : Bl} {w w' : World} {g : Gh} (h : Mem b w g) (os : w'.os = w.os) (tape : w'.tape = w.tape) (output : w'.output = w.output) (hs : w'.heap.size = w.heap.size) (hk : ∀ k, k ≠ b.mb → w'.heap[k]? = w.heap[k]?)
    (R' : List Rm) (hsub : R'.Sublist g.R) (hmo : ∃ es clk, w'.heap[b.mb]? = some (.map es clk) ∧ es.toList.map (fun e => (e.key, e.val)) = R'.map Rm.kv) :
    Mem b w' { g with R := R' } ∧ Ch w g w' { g with R := R' } := by
  have hmB := h.mbb
  obtain ⟨es, clk, m1, m2⟩ := h.mo
  have keep : ∀ {i : Nat} {o : Obj}, w.heap[i]? = some o → (∀ e c, o ≠ .map e c) → w'.heap[i]? = some o := fun {i o} h1 h2 => (hk i (fun e => by subst e; rw [m1] at h1; exact h2 _ _ (Option.some.inj h1).symm)).trans h1
  have cells : ∀ p : Addr, p.block < w.heap.size → sta b.B g.tag p → w'.cell? p = w.cell? p := fun p hp hs => by
    refine World.cell?_of_block (w := w) (hk _ fun e => ?_)
    have hmt := h.mt
    rcases hs with h1 | h1 | ⟨lo, sz, h1, _⟩ | ⟨d, hi, h1, _⟩
    · omega
    · rw [e, hmt] at h1; cases h1
    · rw [e, hmt] at h1; cases h1
    · rw [e, hmt] at h1; cases h1
  have hle : w.heap.size ≤ w'.heap.size := by omega
  refine ⟨{ os := os.trans h.os, tape := tape.trans h.tape, output := output.trans h.output, hs := by rw [hs]; exact h.hs, old := fun i hi => (hk i (by omega)).trans (h.old i hi), lo := h.lo, new := fun i hi => h.new i (by omega), rt := h.rt, rbb := h.rbb, et := h.et, eo := (hk _ h.eb_mb).trans h.eo, tt := h.tt, to := keep h.to (by simp), mt := h.mt, mbb := h.mbb, mo := hmo, st := row_keep h.st fun i cur e1 e2 => (keep e2 (by simp)).trans e2.symm, stt := h.stt, fr := row_keep h.fr fun i cur e1 e2 => (keep e2 (by simp)).trans e2.symm, frt := h.frt, sr := fun x hx => (h.sr x hx).mono hle (fun k _ => Tag.le_refl _) cells, fl := fun d f hd => (h.fl d f hd).mono hle (fun k _ => Tag.le_refl _) cells fun k hi hkB hk' ht => ⟨ht, hk k (fun e => by subst e; rw [h.mt] at ht; cases ht)⟩, rm := ?_, ra := h.ra.sublist hsub }, ⟨os, tape, output, hle, fun i hi hno => hk i (fun e => by subst e; rw [h.mt] at hno; cases hno), fun k _ => Tag.le_refl _⟩⟩
  intro r hr
  have q := h.rm r (hsub.subset hr)
  obtain ⟨cur, q1, q2⟩ := q.a
  exact { q with o := keep q.o (by simp), a := ⟨cur, keep q1 (by simp), q2⟩ }
theorem st8_ne (w : World) (g o : Nat) (x : AV) (q : Addr) (h : q.block ≠ g ∨ q.off < o ∨ o + 8 ≤ q.off) : (st8 w g o x).cell? q = w.cell? q := by
  unfold st8
  have hn : ∀ i, i < 8 → (⟨g, o + i, none⟩ : Addr) ≠ q := fun i hi e => by subst e; simp at h; omega
  have h0 := hn 0 (by omega)
  rw [Nat.add_zero] at h0
  have k : ∀ (W : World) (i : Nat) (v : Value), i < 8 → (W.setCell ⟨g, o + i, none⟩ v).cell? q = W.cell? q := fun W i v hi => World.cell?_setCell_other _ _ _ _ (hn i hi)
  have k0 : ∀ (W : World) (v : Value), (W.setCell ⟨g, o, none⟩ v).cell? q = W.cell? q := fun W v => World.cell?_setCell_other _ _ _ _ h0
  rw [k _ 7 _ (by omega), k _ 6 _ (by omega), k _ 5 _ (by omega), k _ 4 _ (by omega), k _ 3 _ (by omega), k _ 2 _ (by omega), k _ 1 _ (by omega), k0]
theorem st8_in {w : World} {g o : Nat} {x : AV} {cur : Array Value} {e : TypeId} (h : w.heap[g]? = some (.cells cur e (0, 0))) (hs : o + 8 ≤ cur.size) (i : Nat) (hi : i < 8) : (st8 w g o x).cell? ⟨g, o + i, none⟩ = x.cs[i]? := by
  rw [Lib.cell_of_heap (st8_heap h)]
  have : i = 0 ∨ i = 1 ∨ i = 2 ∨ i = 3 ∨ i = 4 ∨ i = 5 ∨ i = 6 ∨ i = 7 := by omega
  rcases this with rfl | rfl | rfl | rfl | rfl | rfl | rfl | rfl
  all_goals
    simp [Array.getElem?_setIfInBounds, AV.cs]
    omega
theorem st8_hp (w : World) (g o : Nat) (x : AV) {cur : Array Value} {e : TypeId} {fz : Nat × Nat} (h : w.heap[g]? = some (.cells cur e fz)) : ∃ cur', (st8 w g o x).heap[g]? = some (.cells cur' e fz) ∧ cur'.size = cur.size :=
  ⟨_, st8_heap h, by simp⟩
set_option maxHeartbeats 1000000 in
theorem ahead_mem {b : Bl} {w1 W w' : World} {g : Gh} (hm : Mem b w1 g) (hg : w1.grownBy W none) {ab st sz ro : Nat} {cur : Array Value} (hro : W.heap[ro]? = some (.cells #[.slice (some ⟨ab, 0, none⟩) sz sz, iv ((st + 1 : Nat) : Int)] 236 (0, 0))) (hab : W.heap[ab]? = some (.cells cur 56 (0, 0))) (hsz : cur.size = sz * 8)
    (habB : b.B ≤ ab) (hroB : b.B ≤ ro) (h1 : ab < w1.heap.size → g.tag ab = .arr ((st + 1) * 8) (sz * 8)) (h2 : ro < w1.heap.size → g.tag ro = .own) (hdis : ∀ r ∈ g.R, r.ab ≠ ab ∧ r.ro ≠ ro) {x : AV} {L : List AV} (hx : LRd b.B g.tag w1 x.A x.c x.list) (hL : ∀ y ∈ L, LRd b.B g.tag w1 y.A y.c y.list)
    (hlen : st + 1 + L.length = sz) (hs : sz ≤ 1000000000) (hc : ∀ (j : Nat) y, L[j]? = some y → ∀ (i : Nat) v, y.cs[i]? = some v → W.cell? ⟨ab, (st + 1 + j) * 8 + i, none⟩ = some v) {es : Array MapEntry} {clk : Nat} (hmo : w1.heap[b.mb]? = some (.map es clk)) (hkv : es.toList.map (fun e => (e.key, e.val)) = g.R.map Rm.kv)
    (heap : w'.heap = (mapw (st8 (W.setCell ⟨ro, 1, none⟩ (iv st)) ab (st * 8) x) b.mb (es.push { key := .pointer (some ⟨ab, st * 8, none⟩), val := .pointer (some ⟨ro, 0, none⟩), born := clk }) (clk + 1)).heap) (os : w'.os = w1.os) (tape : w'.tape = w1.tape) (output : w'.output = w1.output) :
    ∃ g', Mem b w' g' ∧ Ch w1 g w' g' ∧ g'.S = g.S ∧ g'.sv = g.sv ∧ g'.F = g.F ∧ g'.fv = g.fv ∧ LRd b.B g'.tag w' (some ⟨ab, st * 8, none⟩) (sz - st) (x :: L) ∧ ∀ c fz, w1.heap[b.rb]? = some (.cells c 165 fz) → w'.heap[b.rb]? = some (.cells c 165 fz) := by
  have hB := hm.hs
  have hmB := hm.mbb
  have hml := heap_ltM hmo
  have hne : ab ≠ ro := fun e => by subst e; rw [hab] at hro; cases hro
  have hWm := (hg.block _ hml (by simp)).trans hmo
  have nam : ab ≠ b.mb := fun e => by subst e; rw [hab] at hWm; cases hWm
  have nrm : ro ≠ b.mb := fun e => by subst e; rw [hro] at hWm; cases hWm
  have hz : w'.heap.size = W.heap.size := by rw [heap, mapw_size, st8_size]; simp
  have cell : ∀ q : Addr, q.block ≠ b.mb → w'.cell? q = (st8 (W.setCell ⟨ro, 1, none⟩ (iv st)) ab (st * 8) x).cell? q := fun q hq => World.cell?_of_block (by rw [heap, mapw_ne _ _ _ _ hq])
  have hk : ∀ k, k ≠ b.mb → k ≠ ab → k ≠ ro → w'.heap[k]? = W.heap[k]? := fun k k1 k2 k3 => by
    rw [heap, mapw_ne _ _ _ _ k1, st8_other _ _ _ _ _ k2, Below.heap_setCell _ _ _ _ k3]
  have hk1 : ∀ k, k < w1.heap.size → k ≠ b.mb → k ≠ ab → k ≠ ro → w'.heap[k]? = w1.heap[k]? := fun k k0 k1 k2 k3 => (hk k k1 k2 k3).trans (hg.block k k0 (by simp))
  have hroW : w'.heap[ro]? = some (.cells #[.slice (some ⟨ab, 0, none⟩) sz sz, iv st] 236 (0, 0)) := by
    rw [heap, mapw_ne _ _ _ _ nrm, st8_other _ _ _ _ _ (Ne.symm hne), heap_set hro]
    simp
  have habS : (W.setCell ⟨ro, 1, none⟩ (iv st)).heap[ab]? = some (.cells cur 56 (0, 0)) := (Below.heap_setCell _ _ _ _ hne).trans hab
  obtain ⟨cur', ha', hs'⟩ := st8_hp _ ab (st * 8) x habS
  have habW : w'.heap[ab]? = some (.cells cur' 56 (0, 0)) := by rw [heap, mapw_ne _ _ _ _ nam]; exact ha'
  have hmW : w'.heap[b.mb]? = some (.map (es.push { key := .pointer (some ⟨ab, st * 8, none⟩), val := .pointer (some ⟨ro, 0, none⟩), born := clk }) (clk + 1)) := by
    rw [heap]
    exact mapw_at (by rw [st8_size]; simp; exact Nat.lt_of_lt_of_le hml hg.size)
  have far : ∀ q : Addr, q.block = ab → (st + 1) * 8 ≤ q.off → w'.cell? q = W.cell? q := fun q hq ho => by
    rw [cell q (by rw [hq]; exact nam), st8_ne _ _ _ _ _ (.inr (.inr (by omega)))]
    exact World.cell?_of_block (Below.heap_setCell _ _ _ _ (by rw [hq]; exact hne))
  have hcs : ∀ p : Addr, p.block = ab → p.block < w1.heap.size → sta b.B g.tag p → w'.cell? p = w1.cell? p := fun p hp hl hst => by
    have ht := h1 (hp ▸ hl)
    have : (st + 1) * 8 ≤ p.off := by
      rcases hst with h3 | h3 | ⟨lo, s, h3, h4⟩ | ⟨d, hi, h3, _⟩
      · omega
      · rw [hp, ht] at h3; cases h3
      · rw [hp, ht] at h3; cases h3; exact h4
      · rw [hp, ht] at h3; cases h3
    rw [far p hp this]
    exact World.cell?_of_block (hg.block _ hl (by simp))
  have nR : ∀ r ∈ g.R, r.ab ≠ ro ∧ r.ro ≠ ab ∧ r.ab ≠ b.mb ∧ r.ro ≠ b.mb ∧ r.ab < w1.heap.size ∧ r.ro < w1.heap.size := fun r hr => by
    have q := hm.rm r hr
    obtain ⟨c0, q1, q2⟩ := q.a
    have a1 := heap_ltM q1
    have a2 := heap_ltM q.o
    refine ⟨fun e => ?_, fun e => ?_, fun e => ?_, fun e => ?_, a1, a2⟩
    · have t1 := h2 (e ▸ a1); rw [← e, q.at_] at t1; cases t1
    · have t1 := h1 (e ▸ a2); rw [← e, q.ot] at t1; cases t1
    · rw [e, hmo] at q1; cases q1
    · have t1 := q.o; rw [e, hmo] at t1; cases t1
  have key := hm.rooms (w' := w') (ab := ab) (ro := ro) (lo' := st * 8) (sz := sz * 8) os tape output (by rw [hz]; exact hg.size) hne habB hroB (heap_ltM habW) (heap_ltM hroW) (fun hl => ⟨_, h1 hl, by omega⟩)
    (fun hl => ⟨h2 hl, _, (hg.block _ hl (by simp)).symm.trans hro⟩) hcs hk1 (g.R ++ [⟨ab, st, sz, ro⟩]) ⟨_, _, hmW, by have := kv_push hkv ⟨ab, st, sz, ro⟩ clk; exact this⟩ (fun r hr => ?_) ?_
  · obtain ⟨m', c'⟩ := key
    refine ⟨_, m', c', rfl, rfl, rfl, rfl, ?_, fun c fz hr => ?_⟩
    · have mono : ∀ {A : Option Addr} {c : Nat} {M : List AV}, LRd b.B g.tag w1 A c M → LRd b.B (upT (upT g.tag ab (.arr (st * 8) (sz * 8))) ro .own) w' A c M := fun h => by
        refine h.mono c'.size c'.tag fun p hp hst => ?_
        by_cases e : p.block = ab
        · exact hcs p e hp hst
        · refine World.cell?_of_block (hk1 _ hp (fun e2 => ?_) e (fun e2 => ?_))
          · rcases hst with h3 | h3 | ⟨lo, s, h3, _⟩ | ⟨d, hi, h3, _⟩
            · omega
            all_goals
              rw [e2, hm.mt] at h3; cases h3
          · have t1 := h2 (e2 ▸ hp)
            rcases hst with h3 | h3 | ⟨lo, s, h3, _⟩ | ⟨d, hi, h3, _⟩
            · omega
            all_goals
              rw [e2, t1] at h3; cases h3
      refine .mk (by simp; omega) (by omega) (fun e => by cases e) (fun a e => by cases e; exact heap_ltM habW) (fun a lo s e ht => ?_) (fun a e j y hj i v hi => ?_) (fun y hy => ?_)
      · cases e
        simp only [upT_ne _ _ hne, upT_at, Tag.arr.injEq] at ht
        obtain ⟨rfl, rfl⟩ := ht
        simp only [List.length_cons]
        omega
      · cases e
        have hi8 : i < 8 := by
          rcases Nat.lt_or_ge i 8 with h' | h'
          · exact h'
          · rw [List.getElem?_eq_none (by rw [AV.cs_len]; exact h')] at hi; cases hi
        have ha : ((⟨ab, st * 8, none⟩ : Addr).add (j * 8 + i)) = ⟨ab, (st + j) * 8 + i, none⟩ := by
          by_cases e0 : j * 8 + i = 0
          · have : j = 0 ∧ i = 0 := by omega
            obtain ⟨rfl, rfl⟩ := this
            simp [Addr.add]
          · rw [fld_add _ _ e0]
            simp only [Addr.mk.injEq, and_true, true_and]
            omega
        rw [ha]
        refine ⟨?_, .inr (.inr (.inl ⟨st * 8, sz * 8, (upT_ne _ _ hne).trans (upT_at _ _ _), by show st * 8 ≤ (st + j) * 8 + i; omega⟩))⟩
        cases j with
        | zero =>
          simp at hj
          subst hj
          rw [cell _ nam, Nat.add_zero, st8_in habS (by rw [hsz]; omega) i hi8]
          exact hi
        | succ j =>
          rw [far _ rfl (by show (st + 1) * 8 ≤ (st + (j + 1)) * 8 + i; omega), show (st + (j + 1)) = st + 1 + j by omega]
          exact hc j y (by simpa using hj) i v hi
      · rcases List.mem_cons.1 hy with rfl | hy
        · exact mono hx
        · exact mono (hL y hy)
    · have hl := heap_ltM hr
      refine (hk1 _ hl (fun e => ?_) (fun e => ?_) (fun e => ?_)).trans hr
      · rw [e, hmo] at hr; cases hr
      · have t1 := h1 (e ▸ hl); rw [← e, hm.rt] at t1; cases t1
      · have t1 := (hg.block _ hl (by simp)).trans hr
        rw [e, hro] at t1; cases t1
  · rcases List.mem_append.1 hr with hr | hr
    · have q := hm.rm r hr
      obtain ⟨d1, d2⟩ := hdis r hr
      obtain ⟨n1, n2, n3, n4, l1, l2⟩ := nR r hr
      obtain ⟨c0, q1, q2⟩ := q.a
      exact { q with o := (hk1 _ l2 n4 n2 d2).trans q.o, ot := by rw [upT_ne _ _ d2, upT_ne _ _ n2]; exact q.ot, a := ⟨c0, (hk1 _ l1 n3 d1 n1).trans q1, q2⟩, at_ := by rw [upT_ne _ _ n1, upT_ne _ _ d1]; exact q.at_ }
    · rw [List.mem_singleton] at hr
      subst hr
      exact ⟨hroW, upT_at _ _ _, hroB, ⟨cur', habW, by rw [hs', hsz]⟩, by rw [upT_ne _ _ hne, upT_at], habB, by show st ≤ sz; omega, hs⟩
  · rw [List.pairwise_append]
    refine ⟨hm.ra, by simp, fun r hr r' hr' => ?_⟩
    rw [List.mem_singleton] at hr'
    subst hr'
    exact hdis r hr
end Go.Proofs.YtgboboljgcfggaaGreatDoor
