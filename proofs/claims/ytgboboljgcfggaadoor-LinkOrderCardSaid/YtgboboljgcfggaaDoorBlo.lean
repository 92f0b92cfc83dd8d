/- Walk: a block of the reference. -/
import Derived.Test.YtgboboljgcfggaaDoorBo0
namespace Go.Proofs.YtgboboljgcfggaaDoor
open Go.RowKit Go.Maps

theorem ic4 {W : World} {k : Nat} {u0 u1 u2 u3 : Value} {t : TypeId} (h : W.heap[k]? = some (.cells #[u0, u1, u2, u3] t (0, 0))) : W.cell? ⟨k, 0, none⟩ = some u0 ∧ W.cell? ⟨k, 1, none⟩ = some u1 ∧ W.cell? ⟨k, 2, none⟩ = some u2 ∧ W.cell? ⟨k, 3, none⟩ = some u3 ∧ ∀ j, W.frozen? ⟨k, j, none⟩ = false :=
  ⟨by rw [Lib.cell_of_heap h]; rfl, by rw [Lib.cell_of_heap h]; rfl, by rw [Lib.cell_of_heap h]; rfl, by rw [Lib.cell_of_heap h]; rfl, frz h⟩
theorem ic3 {W : World} {k : Nat} {u0 u1 u2 : Value} {t : TypeId} (h : W.heap[k]? = some (.cells #[u0, u1, u2] t (0, 0))) : W.cell? ⟨k, 0, none⟩ = some u0 ∧ W.cell? ⟨k, 1, none⟩ = some u1 ∧ W.cell? ⟨k, 2, none⟩ = some u2 ∧ ∀ j, W.frozen? ⟨k, j, none⟩ = false :=
  ⟨by rw [Lib.cell_of_heap h]; rfl, by rw [Lib.cell_of_heap h]; rfl, by rw [Lib.cell_of_heap h]; rfl, frz h⟩
theorem ic2 {W : World} {k : Nat} {u0 u1 : Value} {t : TypeId} (h : W.heap[k]? = some (.cells #[u0, u1] t (0, 0))) : W.cell? ⟨k, 0, none⟩ = some u0 ∧ W.cell? ⟨k, 1, none⟩ = some u1 :=
  ⟨by rw [Lib.cell_of_heap h]; rfl, by rw [Lib.cell_of_heap h]; rfl⟩
attribute [local irreducible] Calls in
set_option maxRecDepth 100000 in
set_option maxHeartbeats 8000000 in
theorem rblock_any (Ad Ak : Option Addr) (cp ck : Nat) (L : List Cod) (s : Sp) (K : List Sp) (w : World) (hL : CRd w Ad L) (hl : L.length ≤ 100000) (hi : ∀ x ∈ L, x.Lim) (hil : ∀ c ∈ L, ∀ b ∈ c.bs, b.ins.length ≤ 90000) (hs : SpOk (pls L) s) (hK : RD 2 Sp.cs w Ak K) (hkl : K.length ≤ 900) (hk0 : K ≠ []) :
    Calls Tryd.prog 34 #[.slice Ad L.length cp, .agg #[.int .i64 s.code, .int .i64 s.block], .slice Ak K.length ck] w (BlP (pls L) s K Ak w) := by
  obtain ⟨c, sb, b, hc, hsb, hb, hbp⟩ := spot_at hs
  obtain ⟨nc, hnc⟩ : ∃ n, L.length = n := ⟨_, rfl⟩
  obtain ⟨nk, hnk⟩ : ∃ n, K.length = n := ⟨_, rfl⟩
  obtain ⟨sc, hsc0⟩ : ∃ n, s.code = n := ⟨_, rfl⟩
  rw [hsc0] at hc
  obtain ⟨nb, hnb⟩ : ∃ n, c.bs.length = n := ⟨_, rfl⟩
  obtain ⟨m, hm⟩ : ∃ n, b.ins.length = n := ⟨_, rfl⟩
  have hsc : sc < nc := by
    have := (List.getElem?_eq_some_iff.1 hc).1
    omega
  have hsb2 : sb < nb := by
    have := (List.getElem?_eq_some_iff.1 hb).1
    omega
  have hcm := List.mem_of_getElem? hc
  have hbm := List.mem_of_getElem? hb
  have hml : m ≤ 90000 := by rw [← hm]; exact hil c hcm b hbm
  rw [hnc] at hl
  rw [hnk] at hkl
  rw [hsc0, hsb, hnc, hnk]
  have HL := Lib.hid (fun V (g : Gr w V) => hL.gr g)
  have HI := Lib.hid hi
  have HNC := Lib.hid hnc
  have HK := Lib.hid hK
  have HK0 := Lib.hid hk0
  have HNK := Lib.hid hnk
  have HM := Lib.hid hm
  have HSP := Lib.hid (show s = ⟨sc, (sb : Int)⟩ from by obtain ⟨x, y⟩ := s; simp only at hsc0 hsb; rw [hsc0, hsb])
  have HBI := Lib.hid (show (blkAt (pls L) s).ins = b.ins from by rw [hbp]; rfl)
  have HBV := Lib.hid (show blkAt (pls L) s = b.pb from hbp)
  have GW := Lib.hid ((gr_al w (.cells #[.int .i64 sc, .int .i64 sb] 84)).trans (gr_al _ (.cells #[.int .i64 0, .bool false, .slice none 0 0] 61)))
  obtain ⟨bA, hbA⟩ : ∃ x, b.A = x := ⟨_, rfl⟩
  have FA := Lib.hid (fun V (g : Gr w V) => (show ∃ a a1 d d1, Ad = some a ∧ a.add (sc * 3) = a1 ∧ c.bA = some d ∧ d.add (sb * 3) = d1 ∧ V.cell? ⟨a1.block, a1.off + 1, none⟩ = some (.slice (some d) nb c.bc) ∧ V.cell? d1 = some (iv b.cap) ∧ V.cell? ⟨d1.block, d1.off + 1, none⟩ = some (.bool b.param) ∧ V.cell? ⟨d1.block, d1.off + 2, none⟩ = some (.slice bA m b.c) from by
    have hV := hL.gr g
    obtain ⟨a, a1, e1, e2, -, -, y1, -⟩ := hV.rd.cod (k := sc) (by rw [hnc]; exact hsc)
    obtain ⟨d, d1, e3, e4, -, z0, z1, z2⟩ := (hV.c c hcm).b.blk (k := sb) (by rw [hnb]; exact hsb2)
    have hci : L[sc]'(by rw [hnc]; exact hsc) = c := by rw [List.getElem?_eq_getElem (by rw [hnc]; exact hsc)] at hc; exact Option.some.inj hc
    have hbi : c.bs[sb]'(by rw [hnb]; exact hsb2) = b := by rw [List.getElem?_eq_getElem (by rw [hnb]; exact hsb2)] at hb; exact Option.some.inj hb
    rw [hci, e3, hnb] at y1
    rw [hbi] at z0 z1 z2
    rw [hm, hbA] at z2
    exact ⟨a, a1, d, d1, e1, e2, e3, e4, y1, z0, z1, z2⟩))
  have HIN := Lib.hid (fun V (g : Gr w V) => (show RD 4 Ins.cs V bA b.ins from by rw [← hbA]; exact (((hL.gr g).c c hcm).i b hbm)))
  obtain ⟨a, a1, d, d1, eA, ha, -, hd, y1, z0, z1, z2⟩ := FA.out _ GW.out
  subst eA
  clear FA hL hi hil hs hK hk0 hc hb hbp hcm hbm hnc hnk hsc0 hsb hm hbA hnb
  generalize c.bc = bc at *
  go_enter Tryd.func34, Tryd.ntmps34
  go_upto_region 1 with (fail)
  obtain ⟨W1, hW1⟩ : ∃ V, (w.alloc (.cells #[.int .i64 sc, .int .i64 sb] 84)).alloc (.cells #[.int .i64 0, .bool false, .slice none 0 0] 61) = V := ⟨_, rfl⟩
  have V4 := Lib.hid (show W1.heap[w.heap.size]? = some (.cells #[.int .i64 sc, .int .i64 sb] 84 (0, 0)) from by rw [← hW1]; exact gr_h (gr_al _ _) (al_new w _))
  have V6 := Lib.hid (show W1.heap[w.heap.size + 1]? = some (.cells #[.int .i64 0, .bool false, .slice none 0 0] 61 (0, 0)) from by rw [← hW1]; exact al_at _ _ (by simp))
  have VS := Lib.hid (show W1.heap.size = w.heap.size + 2 from by rw [← hW1]; simp)
  rw [hW1] at GW y1 z0 z1 z2 ⊢
  clear hW1
  obtain ⟨s0, s1⟩ := ic2 V4.out
  have GA := Lib.hid ((gr_drew W1).trans (gr_al W1.drew (.cells #[iv 0, .bool false, .slice none 0 0] 61)))
  have s0a := gr_c GA.out s0
  have s1a := gr_c GA.out s1
  have y1a := gr_c GA.out y1
  have z0a := gr_c GA.out z0
  have z1a := gr_c GA.out z1
  have z2a := gr_c GA.out z2
  refine wp_phaseT [false, false, false, false, false, false, false, false, false, false, true, true] [[], [10], [10, 11]] [Value.slice (some a) nc cp, Value.pointer (some ⟨w.heap.size, 0, none⟩), Value.int .i64 sc, Value.pointer (some a1), Value.pointer (some ⟨a1.block, a1.off + 1, none⟩), Value.slice (some d) nb bc, Value.pointer (some ⟨w.heap.size, 1, none⟩), Value.int .i64 sb, Value.pointer (some d1), Value.agg #[iv b.cap, .bool b.param, .slice bA m b.c], Value.pointer (some ⟨W1.drew.heap.size, 0, none⟩), undef] [W1.drew, W1.drew.alloc (.cells #[iv 0, .bool false, .slice none 0 0] 61), (((W1.drew.alloc (.cells #[iv 0, .bool false, .slice none 0 0] 61)).setCell ⟨W1.drew.heap.size, 0, none⟩ (iv b.cap)).setCell ⟨W1.drew.heap.size, 1, none⟩ (.bool b.param)).setCell ⟨W1.drew.heap.size, 2, none⟩ (.slice bA m b.c)] 2 12 (by decide) (by kernel_rfl) (by kernel_rfl) (by kernel_rfl) (by kernel_rfl) rfl (by kernel_rfl) (fun h => absurd h (by decide)) (fun h => absurd h (by decide)) rfl rfl ⟨?_, ?_, ?_, ?_, ?_, ?_, ?_, ?_, ?_, ?_, ?_, ?_, trivial⟩ rfl (by kernel_rfl) ?_
  · intro kk aa hk E
    have h0 : aa.eval (.tmp 0) = Value.slice (some a) nc cp := (E 0 (by kernel_rfl)).trans (by kernel_rfl)
    exact obl_pure (by kernel_rfl) rfl hk fun w => op_move rfl rfl h0
  · intro kk aa hk E
    have h4 : aa.eval (.tmp 4) = Value.pointer (some ⟨w.heap.size, 0, none⟩) := (E 4 (by kernel_rfl)).trans (by kernel_rfl)
    exact obl_pure (by kernel_rfl) rfl hk fun w => op_faSp rfl (.inl rfl) rfl h4
  · intro kk aa hk E
    have h16 : aa.eval (.tmp 16) = Value.pointer (some ⟨w.heap.size, 0, none⟩) := (E 16 (by kernel_rfl)).trans (by kernel_rfl)
    refine obl_read (ks := [0, 1]) (by kernel_rfl) (by kernel_rfl) rfl hk ⟨?_, ?_, trivial⟩
    · intro w' hw; cases hw; exact op_load1 rfl (.inl rfl) rfl h16 s0
    · intro w' hw; cases hw; exact op_load1 rfl (.inl rfl) rfl h16 s0a
  · intro kk aa hk E
    have h15 : aa.eval (.tmp 15) = Value.slice (some a) nc cp := (E 15 (by kernel_rfl)).trans (by kernel_rfl)
    have h17 : aa.eval (.tmp 17) = Value.int .i64 sc := (E 17 (by kernel_rfl)).trans (by kernel_rfl)
    exact obl_pure (by kernel_rfl) rfl hk fun w => op_ix3 rfl (.inl rfl) rfl h15 h17 hsc ha
  · intro kk aa hk E
    have h18 : aa.eval (.tmp 18) = Value.pointer (some a1) := (E 18 (by kernel_rfl)).trans (by kernel_rfl)
    exact obl_pure (by kernel_rfl) rfl hk fun w => op_faC rfl rfl h18
  · intro kk aa hk E
    have h19 : aa.eval (.tmp 19) = Value.pointer (some ⟨a1.block, a1.off + 1, none⟩) := (E 19 (by kernel_rfl)).trans (by kernel_rfl)
    refine obl_read (ks := [0, 1]) (by kernel_rfl) (by kernel_rfl) rfl hk ⟨?_, ?_, trivial⟩
    · intro w' hw; cases hw; exact op_ldB rfl rfl h19 y1
    · intro w' hw; cases hw; exact op_ldB rfl rfl h19 y1a
  · intro kk aa hk E
    have h4 : aa.eval (.tmp 4) = Value.pointer (some ⟨w.heap.size, 0, none⟩) := (E 4 (by kernel_rfl)).trans (by kernel_rfl)
    exact obl_pure (by kernel_rfl) rfl hk fun w => op_faSp rfl (.inr rfl) rfl h4
  · intro kk aa hk E
    have h21 : aa.eval (.tmp 21) = Value.pointer (some ⟨w.heap.size, 1, none⟩) := (E 21 (by kernel_rfl)).trans (by kernel_rfl)
    refine obl_read (ks := [0, 1]) (by kernel_rfl) (by kernel_rfl) rfl hk ⟨?_, ?_, trivial⟩
    · intro w' hw; cases hw; exact op_load1 rfl (.inl rfl) rfl h21 s1
    · intro w' hw; cases hw; exact op_load1 rfl (.inl rfl) rfl h21 s1a
  · intro kk aa hk E
    have h20 : aa.eval (.tmp 20) = Value.slice (some d) nb bc := (E 20 (by kernel_rfl)).trans (by kernel_rfl)
    have h22 : aa.eval (.tmp 22) = Value.int .i64 sb := (E 22 (by kernel_rfl)).trans (by kernel_rfl)
    exact obl_pure (by kernel_rfl) rfl hk fun w => op_ix3 rfl (.inr rfl) rfl h20 h22 hsb2 hd
  · intro kk aa hk E
    have h23 : aa.eval (.tmp 23) = Value.pointer (some d1) := (E 23 (by kernel_rfl)).trans (by kernel_rfl)
    refine obl_read (ks := [0, 1]) (by kernel_rfl) (by kernel_rfl) rfl hk ⟨?_, ?_, trivial⟩
    · intro w' hw; cases hw; exact op_ldBk rfl rfl h23 z0 z1 z2
    · intro w' hw; cases hw; exact op_ldBk rfl rfl h23 z0a z1a z2a
  · intro kk aa hk E
    exact obl_write (ks := [0]) (by kernel_rfl) (by kernel_rfl) hk ⟨⟨1, _, _, by kernel_rfl, rfl, rfl, op_alB rfl rfl rfl⟩, trivial⟩
  · intro kk aa hk E
    have h9 : aa.eval (.tmp 9) = Value.pointer (some ⟨W1.drew.heap.size, 0, none⟩) := (E 9 (by kernel_rfl)).trans (by kernel_rfl)
    have h24 : aa.eval (.tmp 24) = Value.agg #[iv b.cap, .bool b.param, .slice bA m b.c] := (E 24 (by kernel_rfl)).trans (by kernel_rfl)
    exact obl_write (ks := [1]) (by kernel_rfl) (by kernel_rfl) hk ⟨⟨2, _, _, by kernel_rfl, rfl, rfl, op_stB rfl rfl h9 h24 (al_new _ _)⟩, trivial⟩
  intro af haf
  simp only [List.take_succ_cons, List.take_zero, finA, Act.put, List.setIfInBounds_toArray, List.set_cons_succ, List.set_cons_zero] at haf
  subst haf
  simp only [List.drop_succ_cons, List.drop_zero]

  obtain ⟨b9, hb9⟩ : ∃ n, W1.drew.heap.size = n := ⟨_, rfl⟩
  have HB9 := Lib.hid (show b9 = w.heap.size + 2 from by rw [← hb9]; exact VS.out)
  have G2 := Lib.hid (show Gr W1 ((((W1.drew.alloc (.cells #[iv 0, .bool false, .slice none 0 0] 61)).setCell ⟨W1.drew.heap.size, 0, none⟩ (iv b.cap)).setCell ⟨W1.drew.heap.size, 1, none⟩ (.bool b.param)).setCell ⟨W1.drew.heap.size, 2, none⟩ (.slice bA m b.c)) from gr_cell (gr_cell (gr_cell GA.out (Nat.le_refl _) _) (Nat.le_refl _) _) (Nat.le_refl _) _)
  have V9 := Lib.hid (show ((((W1.drew.alloc (.cells #[iv 0, .bool false, .slice none 0 0] 61)).setCell ⟨W1.drew.heap.size, 0, none⟩ (iv b.cap)).setCell ⟨W1.drew.heap.size, 1, none⟩ (.bool b.param)).setCell ⟨W1.drew.heap.size, 2, none⟩ (.slice bA m b.c)).heap[W1.drew.heap.size]? = some (.cells #[.int .i64 b.cap, .bool b.param, .slice bA m b.c] 61 (0, 0)) from set3c (al_new W1.drew _) _ _ _)
  have WS := Lib.hid (show ((((W1.drew.alloc (.cells #[iv 0, .bool false, .slice none 0 0] 61)).setCell ⟨W1.drew.heap.size, 0, none⟩ (iv b.cap)).setCell ⟨W1.drew.heap.size, 1, none⟩ (.bool b.param)).setCell ⟨W1.drew.heap.size, 2, none⟩ (.slice bA m b.c)).heap.size = w.heap.size + 3 from by have := VS.out; simp [World.setCell]; exact this)
  obtain ⟨W2, hW2⟩ : ∃ V, ((((W1.drew.alloc (.cells #[iv 0, .bool false, .slice none 0 0] 61)).setCell ⟨W1.drew.heap.size, 0, none⟩ (iv b.cap)).setCell ⟨W1.drew.heap.size, 1, none⟩ (.bool b.param)).setCell ⟨W1.drew.heap.size, 2, none⟩ (.slice bA m b.c)) = V := ⟨_, rfl⟩
  rw [hW2] at G2 V9 WS ⊢
  rw [hb9] at V9 ⊢
  clear s0 s1 y1 z0 z1 z2 s0a s1a y1a z0a z1a z2a GA hb9 hW2 ha hd
  obtain ⟨z0, z1, z2, -⟩ := ic3 V9.out
  go_upto_region 3 with (fail)
  obtain ⟨ob, hob⟩ : ∃ n, W2.heap.size = n := ⟨_, rfl⟩
  have HOB := Lib.hid (show ob = w.heap.size + 3 from by rw [← hob]; exact WS.out)
  have VO := Lib.hid (show (W2.alloc (.cells #[.int .i64 b.cap, .bool b.param, .slice none 0 0] 61)).heap[W2.heap.size]? = some (.cells #[.int .i64 b.cap, .bool b.param, .slice none 0 0] 61 (0, 0)) from al_new W2 _)
  have G3 := Lib.hid (gr_al W2 (.cells #[.int .i64 b.cap, .bool b.param, .slice none 0 0] 61))
  have V3S := Lib.hid (show (W2.alloc (.cells #[.int .i64 b.cap, .bool b.param, .slice none 0 0] 61)).heap.size = ob + 1 from by rw [← hob]; simp)
  obtain ⟨V, hV⟩ : ∃ V, W2.alloc (.cells #[.int .i64 b.cap, .bool b.param, .slice none 0 0] 61) = V := ⟨_, rfl⟩
  rw [hV] at VO G3 V3S ⊢
  rw [hob] at VO ⊢
  have GV := Lib.hid (GW.out.trans (G2.out.trans G3.out))
  have V9 := Lib.hid (gr_h G3.out V9.out)
  have V4 := Lib.hid (gr_h (G2.out.trans G3.out) V4.out)
  have V6 := Lib.hid (gr_h (G2.out.trans G3.out) V6.out)
  clear z0 z1 z2 hV hob WS VS GW G2 G3
  have hw1 : w.heap.size < b9 := by rw [HB9.out]; omega
  have hw2 : b9 < ob := by rw [HB9.out, HOB.out]; omega
  have S0 := Lib.hid (show BoS w V ob (.int .i64 b.cap) (.bool b.param) (.slice none 0 0) [] Ak Ak K V from ⟨World.grownBy.refl _ _, VO.out, OR.nil, HK.out.gr GV.out, fun a ha => by
      rcases HK.out with h | ⟨a', e, hb, -⟩
      · exact absurd h HK0.out
      · rw [ha] at e; cases e; exact .inl hb, fun a ha => ⟨(fun e => by cases e), by
      rcases HK.out with h | ⟨a', e, hb, -⟩
      · exact absurd h HK0.out
      · rw [ha] at e; cases e; exact Nat.lt_of_lt_of_le hb GV.out.size⟩, .inl rfl⟩)
  go_upto_region 4 with (fail)
  have hvo : ob < V.heap.size := by rw [V3S.out]; omega
  have hwo : w.heap.size ≤ ob := by omega
  go_loopw [2, 11] (fun u2 u11 W => ∃ (j k2 c2 : Nat) (A2 : Option Addr) (K' : List Sp) (M : List Ins) (v : Value), j ≤ m ∧ u2 = .slice A2 k2 c2 ∧ u11 = .int .i64 j ∧ Hid (BoS w V ob (.int .i64 b.cap) (.bool b.param) v M Ak A2 K' W ∧ RbI (pls L) s K b.ins j K' M ∧ K'.length = k2 ∧ k2 ≤ nk + j ∧ K' ≠ [])) (fun _ u _ => m - (intOf u).toNat)
  case atStart => exact ⟨0, nk, ck, Ak, K, [], _, Nat.zero_le _, rfl, rfl, Lib.hid ⟨S0.out, RbI.nil, HNK.out, by omega, HK0.out⟩⟩
  case round =>
    clear S0
    obtain ⟨j, k2, c2, A2, K', M, v, hj, rfl, rfl, HS⟩ := hrel
    have SB := Lib.hid HS.out.1
    have RB := Lib.hid HS.out.2.1
    have HKL := Lib.hid HS.out.2.2
    clear HS
    have z2 : wr.cell? ⟨b9, 2, none⟩ = some (.slice bA m b.c) := (ic3 ((SB.out.g.block b9 (by omega) (fun e => by have := Option.some.inj e; omega)).trans V9.out)).2.2.1
    by_cases hlt : j < m
    · obtain ⟨x, hx⟩ : ∃ x, b.ins[j]? = some x := ⟨_, List.getElem?_eq_getElem (by rw [HM.out]; exact hlt)⟩
      obtain ⟨e, e1, eE, he, -, x0, x1, x2, x3⟩ := (HIN.out _ (SB.out.gw hwo GV.out)).ins (k := j) (by rw [HM.out]; exact hlt)
      have hxi : b.ins[j]'(by rw [HM.out]; exact hlt) = x := by rw [List.getElem?_eq_getElem (by rw [HM.out]; exact hlt)] at hx; exact Option.some.inj hx
      rw [hxi] at x0 x1 x2 x3
      subst eE
      have HXJ := Lib.hid hx
      have s0 : wr.cell? ⟨w.heap.size, 0, none⟩ = some (.int .i64 sc) := (ic2 ((SB.out.g.block _ (by omega) (fun e => by have := Option.some.inj e; omega)).trans V4.out)).1
      obtain ⟨b12, hb12⟩ : ∃ q, wr.heap.size = q := ⟨_, rfl⟩
      have T12 := Lib.hid (show ((wr.alloc (.cells #[.int .i64 x.op, .int .i64 x.a, .int .i64 x.b, .string ⟨x.name.toArray⟩] 63)).alloc (.cells #[.int .i64 sc, .int .i64 x.a] 84)).heap[wr.heap.size]? = some (.cells #[.int .i64 x.op, .int .i64 x.a, .int .i64 x.b, .string ⟨x.name.toArray⟩] 63 (0, 0)) from gr_h (gr_al _ _) (al_new wr _))
      have T13 := Lib.hid (show ((wr.alloc (.cells #[.int .i64 x.op, .int .i64 x.a, .int .i64 x.b, .string ⟨x.name.toArray⟩] 63)).alloc (.cells #[.int .i64 sc, .int .i64 x.a] 84)).heap[wr.heap.size + 1]? = some (.cells #[.int .i64 sc, .int .i64 x.a] 84 (0, 0)) from al_at _ _ (by simp))
      have S3 := Lib.hid (SB.out.go ((gr_al wr (.cells #[.int .i64 x.op, .int .i64 x.a, .int .i64 x.b, .string ⟨x.name.toArray⟩] 63)).trans (gr_al _ (.cells #[.int .i64 sc, .int .i64 x.a] 84))))
      have N12 := Lib.hid (show V.heap.size ≤ b12 ∧ b12 ≠ ob ∧ v.ownBlock ≠ some b12 ∧ ∀ q, A2 = some q → q.block ≠ b12 from by
        have h1 := SB.out.g.size
        have h2 := heap_lt SB.out.p
        exact ⟨by omega, by omega, fun e => by have := (SB.out.o.lt _ e).2; omega, fun q hq => by have := (SB.out.n2 q hq).2; omega⟩)
      have N13 := Lib.hid (show V.heap.size ≤ b12 + 1 ∧ b12 + 1 ≠ ob ∧ v.ownBlock ≠ some (b12 + 1) ∧ ∀ q, A2 = some q → q.block ≠ b12 + 1 from by
        have h1 := SB.out.g.size
        have h2 := heap_lt SB.out.p
        exact ⟨by omega, by omega, fun e => by have := (SB.out.o.lt _ e).2; omega, fun q hq => by have := (SB.out.n2 q hq).2; omega⟩)
      clear hx hxi
      go_upto_region 7 with (fail)
      have s0 := gr_c (gr_al wr (.cells #[.int .i64 x.op, .int .i64 x.a, .int .i64 x.b, .string ⟨x.name.toArray⟩] 63)) s0
      have x1b : (wr.alloc (.cells #[.int .i64 x.op, .int .i64 x.a, .int .i64 x.b, .string ⟨x.name.toArray⟩] 63)).cell? ⟨wr.heap.size, 1, none⟩ = some (.int .i64 x.a) := by rw [Lib.cell_of_heap (al_new wr _)]; rfl
      go_upto_region 8 with (fail)
      rw [hb12] at T12 T13
      try rw [hb12]
      generalize (wr.alloc (.cells #[.int .i64 x.op, .int .i64 x.a, .int .i64 x.b, .string ⟨x.name.toArray⟩] 63)).alloc (.cells #[.int .i64 sc, .int .i64 x.a] 84) = W5 at *
      clear x0 x1 x2 x3 x1b s0 z2 hb12
      have S5 := S3
      clear S3 SB
      obtain ⟨i0, i1, i2, i3, fi⟩ := ic4 T12.out
      by_cases h4 : x.op = 4
      · have HOP := Lib.hid h4
        have e4 : (x.op == 4) = true := by simpa using h4
        obtain ⟨r, hr⟩ : ∃ r, findC (pls L) 0 x.name x.a = r := ⟨_, rfl⟩
        have HTG := Lib.hid (show tgt (pls L) s x = some r from by unfold tgt; rw [if_pos h4, hr])
        have FD := Lib.hid (show Calls Tryd.prog 31 #[.slice (some a) nc cp, .agg #[.string ⟨x.name.toArray⟩, .int .i64 x.a]] W5 (fun e w' => e = .returned (fndV r) ∧ Gr W5 w') from by
          have h := find_any (some a) cp L x.name x.a W5 (HL.out _ (S5.out.gw hwo GV.out)) (by rw [HNC.out]; omega) HI.out
          rw [HNC.out, hr] at h
          exact h)
        rw [h4] at T12 i0
        clear hr h4 e4
        cases r with
        | none =>
          have FD := Lib.hid (show Calls Tryd.prog 31 #[.slice (some a) nc cp, .agg #[.string ⟨x.name.toArray⟩, .int .i64 x.a]] W5 (fun e w' => e = .returned (.tuple #[.agg #[.int .i64 0, .int .i64 0], .bool false]) ∧ Gr W5 w') from FD.out)
          have HBD := Lib.hid (RB.out.bad HXJ.out HTG.out)
          obtain ⟨Av, cv, ev, -⟩ := S5.out.o.form elI.hn
          obtain ⟨nv, hnv⟩ : ∃ q, M.length = q := ⟨_, rfl⟩
          rw [hnv] at ev
          subst ev
          clear hnv
          go_upto_region 9 with (fail)
          go_upto_region 10 with (go_at_call 31; refine FD.out.mono ?_; rintro e W6 ⟨rfl, g6⟩; have S6 := Lib.hid (S5.out.go g6); have f13 := frz (gr_h g6 T13.out); obtain ⟨t0, t1⟩ := ic2 (gr_h g6 T13.out); clear g6)
          have S7 := Lib.hid ((S6.out.cell N13.out.1 N13.out.2.1 N13.out.2.2.1 N13.out.2.2.2 0 (.int .i64 0)).cell N13.out.1 N13.out.2.1 N13.out.2.2.1 N13.out.2.2.2 1 (.int .i64 0))
          have V7 := Lib.hid (show ((W6.setCell ⟨b12 + 1, 0, none⟩ (.int .i64 0)).setCell ⟨b12 + 1, 1, none⟩ (.int .i64 0)).heap[w.heap.size + 1]? = some (.cells #[.int .i64 0, .bool false, .slice none 0 0] 61 (0, 0)) from (S7.out.g.block _ (by omega) (fun e => by have := Option.some.inj e; omega)).trans V6.out)
          generalize (W6.setCell ⟨b12 + 1, 0, none⟩ (.int .i64 0)).setCell ⟨b12 + 1, 1, none⟩ (.int .i64 0) = W7 at *
          clear S6 f13 t0 t1 i0 i1 i2 i3 fi
          obtain ⟨p0, p1, p2, fp⟩ := ic3 S7.out.p
          obtain ⟨q0, q1, q2, fq⟩ := ic3 V7.out
          go_wp2
          have F3 := S7.out.fin GV.out hwo (b := w.heap.size + 1) (by omega) (by omega) (grown3 (.int .i64 b.cap) (.bool b.param) (.slice Av nv cv))
          have F6 := set3c V7.out (.int .i64 b.cap) (.bool b.param) (.slice Av nv cv)
          refine bodyPost_ret (results_b3 rfl _ _ ⟨w.heap.size + 1, 0, none⟩ (.int .i64 b.cap) (.bool b.param) (.slice Av nv cv) (.slice A2 k2 c2) (.bool false) rfl rfl rfl (ic3 F6).1 (ic3 F6).2.1 (ic3 F6).2.2.1) rfl ?_
          refine ⟨F3.2.2, ?_⟩
          rw [HBI.out, HBD.out]
          exact ⟨b.cap, b.param, Av, nv, cv, A2, k2, c2, rfl⟩
        | some t =>
          obtain ⟨tc, htc⟩ : ∃ q, t.code = q := ⟨_, rfl⟩
          obtain ⟨tb, htb⟩ : ∃ q, t.block = q := ⟨_, rfl⟩
          have HTE := Lib.hid (show t = ⟨tc, tb⟩ from by obtain ⟨x, y⟩ := t; simp only at htc htb; rw [htc, htb])
          have FD := Lib.hid (show Calls Tryd.prog 31 #[.slice (some a) nc cp, .agg #[.string ⟨x.name.toArray⟩, .int .i64 x.a]] W5 (fun e w' => e = .returned (.tuple #[.agg #[.int .i64 tc, .int .i64 tb], .bool true]) ∧ Gr W5 w') from by rw [← htc, ← htb]; exact FD.out)
          have HT := Lib.hid (show tgt (pls L) s x = some (some ⟨tc, tb⟩) from by rw [← HTE.out]; exact HTG.out)
          clear htc htb HTG HTE
          go_upto_region 9 with (fail)
          go_upto_region 10 with (go_at_call 31; refine FD.out.mono ?_; rintro e W6 ⟨rfl, g6⟩; have S6 := Lib.hid (S5.out.go g6); have U12 := Lib.hid (gr_h g6 T12.out); have U13 := Lib.hid (gr_h g6 T13.out); have f13 := frz (gr_h g6 T13.out); obtain ⟨t0, t1⟩ := ic2 (gr_h g6 T13.out); clear g6)
          have S7 := Lib.hid ((S6.out.cell N13.out.1 N13.out.2.1 N13.out.2.2.1 N13.out.2.2.2 0 (.int .i64 tc)).cell N13.out.1 N13.out.2.1 N13.out.2.2.1 N13.out.2.2.2 1 (.int .i64 tb))
          have Y12 := Lib.hid (show ((W6.setCell ⟨b12 + 1, 0, none⟩ (.int .i64 tc)).setCell ⟨b12 + 1, 1, none⟩ (.int .i64 tb)).heap[b12]? = some (.cells #[.int .i64 4, .int .i64 x.a, .int .i64 x.b, .string ⟨x.name.toArray⟩] 63 (0, 0)) from (Below.heap_setCell _ _ _ _ (by show b12 ≠ b12 + 1; omega)).trans ((Below.heap_setCell _ _ _ _ (by show b12 ≠ b12 + 1; omega)).trans U12.out))
          have Y13 := Lib.hid (show ((W6.setCell ⟨b12 + 1, 0, none⟩ (.int .i64 tc)).setCell ⟨b12 + 1, 1, none⟩ (.int .i64 tb)).heap[b12 + 1]? = some (.cells #[.int .i64 tc, .int .i64 tb] 84 (0, 0)) from set2c U13.out _ _)
          generalize (W6.setCell ⟨b12 + 1, 0, none⟩ (.int .i64 tc)).setCell ⟨b12 + 1, 1, none⟩ (.int .i64 tb) = W9 at *
          clear S6 f13 t0 t1 i0 i1 i2 i3 fi T12 T13 U12 U13 S5 FD
          have T12 := Y12
          have T13 := Y13
          have S5 := S7
          clear Y12 Y13 S7
          obtain ⟨i0, i1, i2, i3, fi⟩ := ic4 T12.out
          go_upto_region 12 with (fail)
          clear i1 i2 i3 fi
          obtain ⟨K5, hK5⟩ : ∃ q, addS K' (⟨tc, tb⟩ : Sp) = q := ⟨_, rfl⟩
          obtain ⟨k5, hk5⟩ : ∃ q, K5.length = q := ⟨_, rfl⟩
          obtain ⟨ix, hix⟩ : ∃ q, K5.idxOf (⟨tc, tb⟩ : Sp) = q := ⟨_, rfl⟩
          have RB5 := Lib.hid (show RbI (pls L) s K b.ins (j + 1) K5 (M ++ [⟨4, ix, x.b, []⟩]) from by
            have h := RB.out.yes HXJ.out HT.out
            rw [hK5, hix, HOP.out] at h
            exact h)
          have K5L := Lib.hid (show K5.length = k5 ∧ k5 ≤ nk + (j + 1) ∧ K5 ≠ [] from ⟨hk5, by
            have h := addS_len K' (⟨tc, tb⟩ : Sp)
            rw [hK5, hk5, HKL.out.1] at h
            have := HKL.out.2.1
            omega, by rw [← hK5]; exact addS_ne _ _⟩)
          have NB := Lib.hid (show Calls Tryd.prog 32 #[.slice A2 k2 c2, .agg #[.int .i64 tc, .int .i64 tb]] W9 (fun e w' => ∃ (A5 : Option Addr) (c5 : Nat), e = .returned (.tuple #[.slice A5 k5 c5, .int .i64 ix]) ∧ RD 2 Sp.cs w' A5 K5 ∧ Gr W9 w' ∧ (A5 = A2 ∨ ∀ a, A5 = some a → W9.heap.size ≤ a.block)) from by
            have h := numq_any A2 c2 K' (⟨tc, tb⟩ : Sp) W9 S5.out.r (by have := HKL.out; omega)
            rw [HKL.out.1] at h
            refine h.mono ?_
            rintro e w' ⟨A5, c5, h1, h2, h3, h4⟩
            rw [hK5] at h1 h2
            rw [hk5, hix] at h1
            exact ⟨A5, c5, h1, h2, h3, h4⟩)
          clear hK5 hk5 hix
          obtain ⟨i0, i1, i2, i3, fi⟩ := ic4 T12.out
          obtain ⟨t0, t1⟩ := ic2 T13.out
          go_upto_region 13 with (fail)
          go_upto_region 14 with (go_at_call 32; refine NB.out.mono ?_; rintro e W6 ⟨A5, c5, rfl, r5, g5, n5⟩; have R5 := Lib.hid r5; have G5 := Lib.hid g5; have N5 := Lib.hid n5; have U12 := Lib.hid (gr_h g5 T12.out); obtain ⟨u0, u1, u2, u3, fu⟩ := ic4 U12.out; clear r5 g5 n5)
          have S6 := Lib.hid (S5.out.num G5.out R5.out N5.out K5L.out.2.2)
          have NE := Lib.hid (show v.ownBlock ≠ some b12 ∧ ∀ q, A5 = some q → q.block ≠ b12 from ⟨N12.out.2.2.1, fun q hq e => by
            rcases N5.out with h | h
            · rw [h] at hq; exact N12.out.2.2.2 q hq e
            · have h1 := h q hq
              have h2 := heap_lt T12.out
              omega⟩)
          go_upto_region 15 with (fail)
          have S7 := Lib.hid ((S6.out.cell N12.out.1 N12.out.2.1 NE.out.1 NE.out.2 1 (.int .i64 ix)).cell N12.out.1 N12.out.2.1 NE.out.1 NE.out.2 3 (.string ⟨#[]⟩))
          have T7 := Lib.hid (show ((W6.setCell ⟨b12, 1, none⟩ (.int .i64 ix)).setCell ⟨b12, 3, none⟩ (.string ⟨#[]⟩)).heap[b12]? = some (.cells #[.int .i64 4, .int .i64 ix, .int .i64 x.b, .string ⟨#[]⟩] 63 (0, 0)) from by
            have h := U12.out
            simp [World.setCell, Array.getElem?_modify, h])
          generalize (W6.setCell ⟨b12, 1, none⟩ (.int .i64 ix)).setCell ⟨b12, 3, none⟩ (.string ⟨#[]⟩) = W7 at *
          clear U12 T12 T13 u0 u1 u2 u3 fu i0 i1 i2 i3 fi t0 t1 S6 S5 NB R5 N5 NE G5
          obtain ⟨i0, i1, i2, i3, fi⟩ := ic4 T7.out
          obtain ⟨p0, p1, p2, fp⟩ := ic3 S7.out.p
          obtain ⟨Av, cv, ev, -⟩ := S7.out.o.form elI.hn
          obtain ⟨nv, hnv⟩ : ∃ q, M.length = q := ⟨_, rfl⟩
          rw [hnv] at ev
          have HNV := Lib.hid (show M.length = nv ∧ nv ≤ 90000 from ⟨hnv, by have h := RB.out.m; have h2 := congrArg List.length h; simp at h2; omega⟩)
          subst ev
          clear hnv
          go_wp2_with (at_builtin; refine wpList_app elI rfl (.tmp 81) (.tmp 83) rfl V.heap.size rfl (S7.out.o.gr (gr_al _ _)) (M := [⟨4, ix, x.b, []⟩]) (m := 1) (c := 1) rfl rfl (rd_cells (t := 63) elI.hn (al_new _ _)) (by have := HNV.out; simp; omega) (by have := S7.out.g.size; simp; omega) ?_; intro v8 w8 o8 g8 h8; have S8 := Lib.hid ((S7.out.go (gr_al _ _)).put (by omega) (by omega) o8 g8 h8); have q8 := Lib.hid ((g8.block ob (by have := heap_lt S7.out.p; simp; omega) (fun e => by have := (S7.out.o.lt _ e.symm).1; omega)).trans (gr_h (gr_al W7 _) S7.out.p)); obtain ⟨r0, r1, r2, fr⟩ := ic3 q8.out; obtain ⟨Aw, cw, ew, -⟩ := o8.form elI.hn; rw [List.length_append, HNV.out.1] at ew; change _ = Value.slice Aw (nv + 1) cw at ew; subst ew; clear o8 g8 h8 q8)
          exact ⟨⟨j + 1, k5, c5, A5, K5, M ++ [⟨4, ix, x.b, []⟩], _, by omega, rfl, by simp, Lib.hid ⟨S8.out, RB5.out, K5L.out⟩⟩, by simp [intOf]; omega⟩

      · by_cases h5 : x.op = 5
        · have HOP := Lib.hid h5
          have HT := Lib.hid (show tgt (pls L) s x = some (some ⟨sc, x.a⟩) from by unfold tgt; rw [if_neg h4, if_pos h5, HSP.out])
          rw [h5] at T12 i0
          clear h4 h5 i0 i1 i2 i3 fi
          obtain ⟨K5, hK5⟩ : ∃ q, addS K' (⟨sc, x.a⟩ : Sp) = q := ⟨_, rfl⟩
          obtain ⟨k5, hk5⟩ : ∃ q, K5.length = q := ⟨_, rfl⟩
          obtain ⟨ix, hix⟩ : ∃ q, K5.idxOf (⟨sc, x.a⟩ : Sp) = q := ⟨_, rfl⟩
          have RB5 := Lib.hid (show RbI (pls L) s K b.ins (j + 1) K5 (M ++ [⟨5, ix, x.b, []⟩]) from by
            have h := RB.out.yes HXJ.out HT.out
            rw [hK5, hix, HOP.out] at h
            exact h)
          have K5L := Lib.hid (show K5.length = k5 ∧ k5 ≤ nk + (j + 1) ∧ K5 ≠ [] from ⟨hk5, by
            have h := addS_len K' (⟨sc, x.a⟩ : Sp)
            rw [hK5, hk5, HKL.out.1] at h
            have := HKL.out.2.1
            omega, by rw [← hK5]; exact addS_ne _ _⟩)
          have NB := Lib.hid (show Calls Tryd.prog 32 #[.slice A2 k2 c2, .agg #[.int .i64 sc, .int .i64 x.a]] W5 (fun e w' => ∃ (A5 : Option Addr) (c5 : Nat), e = .returned (.tuple #[.slice A5 k5 c5, .int .i64 ix]) ∧ RD 2 Sp.cs w' A5 K5 ∧ Gr W5 w' ∧ (A5 = A2 ∨ ∀ a, A5 = some a → W5.heap.size ≤ a.block)) from by
            have h := numq_any A2 c2 K' (⟨sc, x.a⟩ : Sp) W5 S5.out.r (by have := HKL.out; omega)
            rw [HKL.out.1] at h
            refine h.mono ?_
            rintro e w' ⟨A5, c5, h1, h2, h3, h4⟩
            rw [hK5] at h1 h2
            rw [hk5, hix] at h1
            exact ⟨A5, c5, h1, h2, h3, h4⟩)
          clear hK5 hk5 hix
          obtain ⟨i0, i1, i2, i3, fi⟩ := ic4 T12.out
          obtain ⟨t0, t1⟩ := ic2 T13.out
          go_upto_region 13 with (fail)
          go_upto_region 14 with (go_at_call 32; refine NB.out.mono ?_; rintro e W6 ⟨A5, c5, rfl, r5, g5, n5⟩; have R5 := Lib.hid r5; have G5 := Lib.hid g5; have N5 := Lib.hid n5; have U12 := Lib.hid (gr_h g5 T12.out); obtain ⟨u0, u1, u2, u3, fu⟩ := ic4 U12.out; clear r5 g5 n5)
          have S6 := Lib.hid (S5.out.num G5.out R5.out N5.out K5L.out.2.2)
          have NE := Lib.hid (show v.ownBlock ≠ some b12 ∧ ∀ q, A5 = some q → q.block ≠ b12 from ⟨N12.out.2.2.1, fun q hq e => by
            rcases N5.out with h | h
            · rw [h] at hq; exact N12.out.2.2.2 q hq e
            · have h1 := h q hq
              have h2 := heap_lt T12.out
              omega⟩)
          go_upto_region 15 with (fail)
          have S7 := Lib.hid ((S6.out.cell N12.out.1 N12.out.2.1 NE.out.1 NE.out.2 1 (.int .i64 ix)).cell N12.out.1 N12.out.2.1 NE.out.1 NE.out.2 3 (.string ⟨#[]⟩))
          have T7 := Lib.hid (show ((W6.setCell ⟨b12, 1, none⟩ (.int .i64 ix)).setCell ⟨b12, 3, none⟩ (.string ⟨#[]⟩)).heap[b12]? = some (.cells #[.int .i64 5, .int .i64 ix, .int .i64 x.b, .string ⟨#[]⟩] 63 (0, 0)) from by
            have h := U12.out
            simp [World.setCell, Array.getElem?_modify, h])
          generalize (W6.setCell ⟨b12, 1, none⟩ (.int .i64 ix)).setCell ⟨b12, 3, none⟩ (.string ⟨#[]⟩) = W7 at *
          clear U12 T12 T13 u0 u1 u2 u3 fu i0 i1 i2 i3 fi t0 t1 S6 S5 NB R5 N5 NE G5
          obtain ⟨i0, i1, i2, i3, fi⟩ := ic4 T7.out
          obtain ⟨p0, p1, p2, fp⟩ := ic3 S7.out.p
          obtain ⟨Av, cv, ev, -⟩ := S7.out.o.form elI.hn
          obtain ⟨nv, hnv⟩ : ∃ q, M.length = q := ⟨_, rfl⟩
          rw [hnv] at ev
          have HNV := Lib.hid (show M.length = nv ∧ nv ≤ 90000 from ⟨hnv, by have h := RB.out.m; have h2 := congrArg List.length h; simp at h2; omega⟩)
          subst ev
          clear hnv
          go_wp2_with (at_builtin; refine wpList_app elI rfl (.tmp 81) (.tmp 83) rfl V.heap.size rfl (S7.out.o.gr (gr_al _ _)) (M := [⟨5, ix, x.b, []⟩]) (m := 1) (c := 1) rfl rfl (rd_cells (t := 63) elI.hn (al_new _ _)) (by have := HNV.out; simp; omega) (by have := S7.out.g.size; simp; omega) ?_; intro v8 w8 o8 g8 h8; have S8 := Lib.hid ((S7.out.go (gr_al _ _)).put (by omega) (by omega) o8 g8 h8); have q8 := Lib.hid ((g8.block ob (by have := heap_lt S7.out.p; simp; omega) (fun e => by have := (S7.out.o.lt _ e.symm).1; omega)).trans (gr_h (gr_al W7 _) S7.out.p)); obtain ⟨r0, r1, r2, fr⟩ := ic3 q8.out; obtain ⟨Aw, cw, ew, -⟩ := o8.form elI.hn; rw [List.length_append, HNV.out.1] at ew; change _ = Value.slice Aw (nv + 1) cw at ew; subst ew; clear o8 g8 h8 q8)
          exact ⟨⟨j + 1, k5, c5, A5, K5, M ++ [⟨5, ix, x.b, []⟩], _, by omega, rfl, by simp, Lib.hid ⟨S8.out, RB5.out, K5L.out⟩⟩, by simp [intOf]; omega⟩

        · have e4 : (x.op == 4) = false := by simpa using h4
          have e5 : (x.op == 5) = false := by simpa using h5
          have S7 := S5
          have T7 := T12
          have RB5 := Lib.hid (RB.out.no HXJ.out ⟨h4, h5⟩)
          clear h4 h5
          go_upto_region 15 with (fail)
          generalize W5 = W7 at *
          clear i0 i1 i2 i3 fi T12 S5 T13
          obtain ⟨i0, i1, i2, i3, fi⟩ := ic4 T7.out
          obtain ⟨p0, p1, p2, fp⟩ := ic3 S7.out.p
          obtain ⟨Av, cv, ev, -⟩ := S7.out.o.form elI.hn
          obtain ⟨nv, hnv⟩ : ∃ q, M.length = q := ⟨_, rfl⟩
          rw [hnv] at ev
          have HNV := Lib.hid (show M.length = nv ∧ nv ≤ 90000 from ⟨hnv, by have h := RB.out.m; have h2 := congrArg List.length h; simp at h2; omega⟩)
          subst ev
          clear hnv
          go_wp2_with (at_builtin; refine wpList_app elI rfl (.tmp 81) (.tmp 83) rfl V.heap.size rfl (S7.out.o.gr (gr_al _ _)) (M := [x]) (m := 1) (c := 1) rfl rfl (rd_cells (t := 63) elI.hn (al_new _ _)) (by have := HNV.out; simp; omega) (by have := S7.out.g.size; simp; omega) ?_; intro v8 w8 o8 g8 h8; have S8 := Lib.hid ((S7.out.go (gr_al _ _)).put (by omega) (by omega) o8 g8 h8); have q8 := Lib.hid ((g8.block ob (by have := heap_lt S7.out.p; simp; omega) (fun e => by have := (S7.out.o.lt _ e.symm).1; omega)).trans (gr_h (gr_al W7 _) S7.out.p)); obtain ⟨r0, r1, r2, fr⟩ := ic3 q8.out; obtain ⟨Aw, cw, ew, -⟩ := o8.form elI.hn; rw [List.length_append, HNV.out.1] at ew; change _ = Value.slice Aw (nv + 1) cw at ew; subst ew; clear o8 g8 h8 q8)

          exact ⟨⟨j + 1, k2, c2, A2, K', M ++ [x], _, by omega, rfl, by simp, Lib.hid ⟨S8.out, RB5.out, by have := HKL.out; exact ⟨this.1, by omega, this.2.2⟩⟩⟩, by simp [intOf]; omega⟩
    · obtain rfl : m = j := by omega
      obtain ⟨f1, f2⟩ := RB.out.all HM.out
      have F1 := Lib.hid f1
      have F2 := Lib.hid f2
      obtain ⟨Av, cv, ev, -⟩ := SB.out.o.form elI.hn
      rw [show M.length = m from by rw [f2, List.length_map]; exact HM.out] at ev
      subst ev
      have V7 := Lib.hid (show wr.heap[w.heap.size + 1]? = some (.cells #[.int .i64 0, .bool false, .slice none 0 0] 61 (0, 0)) from (SB.out.g.block _ (by omega) (fun e => by have := Option.some.inj e; omega)).trans V6.out)
      clear f1 f2
      obtain ⟨p0, p1, p2, fp⟩ := ic3 SB.out.p
      obtain ⟨q0, q1, q2, fq⟩ := ic3 V7.out
      go_wp2
      have F3 := SB.out.fin GV.out hwo (b := w.heap.size + 1) (by omega) (by omega) (grown3 (.int .i64 b.cap) (.bool b.param) (.slice Av m cv))
      have F6 := set3c V7.out (.int .i64 b.cap) (.bool b.param) (.slice Av m cv)
      refine bodyPost_ret (results_b3 rfl _ _ ⟨w.heap.size + 1, 0, none⟩ (.int .i64 b.cap) (.bool b.param) (.slice Av m cv) (.slice A2 k2 c2) (.bool true) rfl rfl rfl (ic3 F6).1 (ic3 F6).2.1 (ic3 F6).2.2.1) rfl ?_
      refine ⟨F3.2.2, ?_⟩
      rw [HBI.out, F1.out]
      obtain ⟨Az, cz, ez, hz, -, -, -, lz⟩ := F3.1.form2 elI.hn
      obtain rfl : Av = Az := by cases ez; rfl
      refine ⟨Av, cv, A2, c2, ?_, ?_, F3.2.1, fun a ha => ⟨by have := (lz a ha).1; omega, (lz a ha).2.1⟩, SB.out.n3.imp id fun h a ha => by have := h a ha; omega⟩
      · rw [HBV.out, HKL.out.1]
        show _ = Ending.returned (.tuple #[.agg #[iv b.cap, .bool b.param, .slice Av b.ins.length cv], .slice A2 k2 c2, .bool true])
        rw [HM.out]
      · rw [← F2.out]; exact hz
end Go.Proofs.YtgboboljgcfggaaDoor
