/- The law MachinePieces. -/
import Derived.Test.YtdfllhmkgphcmaaDoorLawC
import Derived.Test.YtdfllhmkgphcmaaDoorSmi
import Derived.Test.YtdfllhmkgphcmaaDoorLtM
import Derived.Test.YtdfllhmkgphcmaaDoorLtP
import Derived.Test.YtdfllhmkgphcmaaDoorLtS
import Derived.Deep.CutRange
namespace Go.Proofs.YtdfllhmkgphcmaaDoor
open Go.RowKit

set_option maxRecDepth 100000 in
set_option maxHeartbeats 8000000 in
theorem law_pieces_big (p : Prg) (s x y : Int) (w : World) (hp : p.Rd w) (hl : LenP p) (h : ¬ Small p) : Calls Tryd.prog 9 #[p.v, .int .u64 s, .int .u8 x, .int .u8 y] w fun e w' => e = .returned (.bool true) ∧ w.grownBy w' none := by
  have L0 := Lib.hid (LC.of p w)
  have AW := Lib.hid awake_any
  have GN := Lib.hid (fun V (h1 : LC p w V) => great_yes p V (hp.below (below_of h1.gr)) hl h)
  clear hp hl h
  unfold Prg.v at *
  go_enter Tryd.func9, Tryd.ntmps9
  go_wp2_with (first | (go_at_call 11; refine (GN.out _ L0.out).mono ?_; rintro e w1 ⟨rfl, g1⟩; have L1 := Lib.hid (L0.out.grow g1); clear g1) | (go_at_call 14; refine (AW.out _).mono ?_; rintro e w2 ⟨rfl, g2⟩; have G2 := Lib.hid (L1.out.gr.trans g2); clear g2))
  go_ret
  exact ⟨rfl, G2.out⟩
set_option maxRecDepth 100000 in
set_option maxHeartbeats 8000000 in
theorem law_pieces_none (p : Prg) (s x y : Int) (w : World) (hp : p.Rd w) (hl : LenP p) (h : Small p) (hst : p.ss = [] ∨ errP p ≠ 0) : Calls Tryd.prog 9 #[p.v, .int .u64 s, .int .u8 x, .int .u8 y] w fun e w' => e = .returned (.bool true) ∧ w.grownBy w' none := by
  have L0 := Lib.hid (LC.of p w)
  have AW := Lib.hid awake_any
  have GN := Lib.hid (fun V (h1 : LC p w V) => great_not p V (hp.below (below_of h1.gr)) hl h)
  have SN := Lib.hid (fun V (h1 : LC p w V) => begin_none_ p s V (hp.below (below_of h1.gr)) hl hst)
  clear hp hl h hst
  unfold Prg.v at *
  go_enter Tryd.func9, Tryd.ntmps9
  go_wp2_with (first | (go_at_call 11; refine (GN.out _ L0.out).mono ?_; rintro e w1 ⟨rfl, g1⟩; have L1 := Lib.hid (L0.out.grow g1); obtain ⟨c0, c1⟩ := L1.out.c; clear g1) | (go_at_call 18; refine (SN.out _ L1.out).mono ?_; rintro e w3 ⟨rfl, g3⟩; have L3 := Lib.hid (fun o => (L1.out.grow g3).grow (World.grownBy_alloc w3 o none)); clear g3) | (go_at_call 14; refine (AW.out _).mono ?_; rintro e w2 ⟨rfl, g2⟩; have G2 := Lib.hid ((L3.out _).gr.trans g2); clear g2))
  go_ret
  exact ⟨rfl, G2.out⟩
set_option maxRecDepth 100000 in
set_option maxHeartbeats 8000000 in
theorem law_pieces_27_27 (p : Prg) (s x y : Int) (st : Stt) (ss : List Stt) (a c : MM) (k n KN N : Nat) (w : World) (hp : p.Rd w) (hl : LenP p) (h : Small p) (hs : p.ss = st :: ss) (he : errP p = 0) (x0 : 0 ≤ x) (x1 : x ≤ 255) (y0 : 0 ≤ y) (y1 : y ≤ 255) (hk : x.tmod 101 = (k : Int)) (hn : y.tmod 101 = (n : Int)) (hk1 : k ≤ 100) (hn1 : n ≤ 100) (hKN : k + n = KN)
    (r1 : runE k (begM p.bs st.block s) = (a, 27)) (r2 : runE KN (begM p.bs st.block s) = (c, 27)) (r3 : (if ended a then (a, 0) else runE n a) = (c, (27 : Int))) (hIa : MI 401 a) (hast : a.steps ≤ 100000) (has : a.steps = k) (hNE : N = KN) (hcs : c.steps = N) (hNK : N ≤ KN) (hcN : c = itM N (begM p.bs st.block s)) (hN : N ≤ 200) (hit : ∀ j, j ≤ N → MI 401 (itM j (begM p.bs st.block s)) ∧ (itM j (begM p.bs st.block s)).steps = j ∧ (j < N → ended (itM j (begM p.bs st.block s)) = false)) :
    Calls Tryd.prog 9 #[p.v, .int .u64 s, .int .u8 x, .int .u8 y] w fun e w' => e = .returned (.bool true) ∧ w.grownBy w' none := by
  have L0 := Lib.hid (LC.of p w)
  have AW := Lib.hid awake_any
  have HPW := Lib.hid hp
  have HL := Lib.hid hl
  have HP := Lib.hid (fun V (h1 : LC p w V) => hp.below (below_of h1.gr))
  have GN := Lib.hid (fun V (h1 : LC p w V) => great_not p V (hp.below (below_of h1.gr)) hl h)
  have ST := Lib.hid (fun V (h1 : p.Rd V) => begin_at_ p s st ss V h1 hl hs he)
  have X1 := Lib.hid (fun (B : Nat) (V : World) (hx : (bAM p st.block s B).RdX w (tgB B) V) => (by rw [← r1]; exact begin_run_ p s st ss w V B k hl hs he (by omega) hx : Calls Tryd.prog 19 #[(bAM p st.block s B).v, iv k] V (RunP w (tgB B) (bAM p st.block s B) V (a, 27))))
  have X2 := Lib.hid (fun (B : Nat) (V : World) (hx : (bAM p st.block s B).RdX w (tgB B) V) => (by rw [← r2]; exact begin_run_ p s st ss w V B KN hl hs he (by omega) hx : Calls Tryd.prog 19 #[(bAM p st.block s B).v, iv KN] V (RunP w (tgB B) (bAM p st.block s B) V (c, 27))))
  have X3 := Lib.hid (fun (M : AM) (tg : Nat → Tag) (V : World) (hx : M.RdX w tg V) (hm : M.er = a) => (by
    rw [← r3]
    by_cases hea : ended a = true
    · rw [if_pos hea, ← hm]
      exact run_end w tg M V n hx (by rw [hm]; exact hea) (by omega)
    · rw [if_neg hea, ← hm]
      exact run_go w tg M V n 401 hx (by rw [hm]; simpa using hea) (by rw [hm]; exact hIa) (by omega) (by omega) (by
        have h7 : M.steps = a.steps := congrArg MM.steps hm
        have h8 : a.steps ≤ 100000 := hast
        omega) : Calls Tryd.prog 19 #[M.v, iv n] V (RunP w tg M V (c, 27))))
  have STP := Lib.hid (fun (j : Nat) (hj : j < N) (M : AM) (tg : Nat → Tag) (V : World) (hx : M.RdX w tg V) (hm : M.er = itM j (begM p.bs st.block s)) => (by
    obtain ⟨i1, i2, i3⟩ := hit j (by omega)
    have := stepS_go w tg M V 401 hx (by rw [hm]; exact i3 hj) (by rw [hm]; exact i1) (by omega) (by
      have h7 : M.steps = (itM j (begM p.bs st.block s)).steps := congrArg MM.steps hm
      omega)
    rw [hm] at this
    exact this : Calls Tryd.prog 22 #[M.v] V (RunP w tg M V (itM (j + 1) (begM p.bs st.block s), 0))))
  have IS := Lib.hid (fun (j : Nat) (hj : j ≤ N) => (hit j hj).2.1)
  have CN := Lib.hid hcN
  have CS := Lib.hid hcs
  have ww1 : IntKind.i64.wrap x = x := IntWalk.i64_in _ ⟨by omega, by omega⟩
  have ww2 : IntKind.i64.wrap y = y := IntWalk.i64_in _ ⟨by omega, by omega⟩
  have ww3 : IntKind.i64.wrap ((k : Int) + (n : Int)) = (KN : Int) := by rw [IntWalk.i64_in _ ⟨by omega, by omega⟩]; omega
  have BM0 := Lib.hid (bAM_er p st.block s)
  clear hp hl h hs he r1 r2 r3 hit hcN hcs hIa
  generalize begM p.bs st.block s = bm at *
  unfold Prg.v at *
  go_enter Tryd.func9, Tryd.ntmps9
  go_wp2_with (first | (go_at_call 11; refine (GN.out _ L0.out).mono ?_; rintro e w1 ⟨rfl, g1⟩; have L1 := Lib.hid (L0.out.grow g1); obtain ⟨c0, c1⟩ := L1.out.c; clear g1))
  refine (ST.out w1 (HP.out _ L1.out)).mono ?_
  rintro e w3 ⟨g3, B1, rfl, hB1, kB1⟩
  have l3 := L1.out.grow g3
  have h1 := HM.start (p := p) (blk := st.block) (seed := s) HPW.out l3.gr (Nat.le_trans L1.out.gr.size hB1) kB1
  have x1' := X1.out B1
  have x2' := X2.out B1
  have ep1 : (bAM p st.block s B1).p = p := rfl
  have em1 : (bAM p st.block s B1).er = bm := BM0.out B1
  obtain ⟨M1, hM1⟩ : ∃ M1, M1 = bAM p st.block s B1 := ⟨_, rfl⟩
  rw [← hM1] at x1' x2' h1 ep1 em1 ⊢
  have EP1 := Lib.hid (show M1.p = p ∧ M1.er = bm from ⟨ep1, em1⟩)
  have Y1 := Lib.hid x1'
  have Y2 := Lib.hid x2'
  have H1 := Lib.hid h1
  clear L1 g3 hB1 kB1 h1 l3 hM1 X1 X2 x1' x2' ep1 em1 c0 c1 ST GN HP L0 BM0
  generalize tgB B1 = tg0 at *
  unfold AM.v
  go_wp2_with fail
  refine (Y1.out _ H1.out.x).mono ?_
  rintro e w5 ⟨g5, M2, tg2, rfl, hp2, her2, hx2, -⟩
  have q0 := fun o => ((H1.out.grow (g5.trans (World.grownBy_alloc w5 o none))).c).1.1
  have q1 := fun o => ((H1.out.grow (g5.trans (World.grownBy_alloc w5 o none))).c).1.2.1
  have q2 := fun o => ((H1.out.grow (g5.trans (World.grownBy_alloc w5 o none))).c).1.2.2.1
  have q3 := fun o => ((H1.out.grow (g5.trans (World.grownBy_alloc w5 o none))).c).1.2.2.2.1
  have q4 := fun o => ((H1.out.grow (g5.trans (World.grownBy_alloc w5 o none))).c).1.2.2.2.2.1
  have q5 := fun o => ((H1.out.grow (g5.trans (World.grownBy_alloc w5 o none))).c).1.2.2.2.2.2.1
  have q6 := fun o => ((H1.out.grow (g5.trans (World.grownBy_alloc w5 o none))).c).1.2.2.2.2.2.2.1
  have q7 := fun o => ((H1.out.grow (g5.trans (World.grownBy_alloc w5 o none))).c).1.2.2.2.2.2.2.2
  have H5 := Lib.hid (fun o => H1.out.grow (g5.trans (World.grownBy_alloc w5 o none)))
  have K5 := Lib.hid (al_new w5 (oM M2))
  have XA := Lib.hid (hx2.grow (World.grownBy_alloc w5 (oM M2) none))
  have P2 := Lib.hid (show M2.p = p ∧ M2.er = a from ⟨hp2.trans EP1.out.1, her2⟩)
  clear H1 Y1 g5 hp2 her2 hx2
  have e9 : (a, (27 : Int)).2 = 27 := rfl
  unfold AM.v
  rw [e9]
  clear e9
  go_wp2_with fail
  refine (X3.out M2 tg2 _ XA.out P2.out.2).mono ?_
  rintro e w7 ⟨g7, M3, tg3, rfl, hp3, her3, hx3, -⟩
  have r0 := fun o => (((H5.out _).grow (g7.trans (World.grownBy_alloc w7 o none))).c).1.1
  have r1 := fun o => (((H5.out _).grow (g7.trans (World.grownBy_alloc w7 o none))).c).1.2.1
  have r2 := fun o => (((H5.out _).grow (g7.trans (World.grownBy_alloc w7 o none))).c).1.2.2.1
  have r3 := fun o => (((H5.out _).grow (g7.trans (World.grownBy_alloc w7 o none))).c).1.2.2.2.1
  have r4 := fun o => (((H5.out _).grow (g7.trans (World.grownBy_alloc w7 o none))).c).1.2.2.2.2.1
  have r5 := fun o => (((H5.out _).grow (g7.trans (World.grownBy_alloc w7 o none))).c).1.2.2.2.2.2.1
  have r6 := fun o => (((H5.out _).grow (g7.trans (World.grownBy_alloc w7 o none))).c).1.2.2.2.2.2.2.1
  have r7 := fun o => (((H5.out _).grow (g7.trans (World.grownBy_alloc w7 o none))).c).1.2.2.2.2.2.2.2
  have H7 := Lib.hid (fun o => (H5.out (oM M2)).grow (g7.trans (World.grownBy_alloc w7 o none)))
  have K7a := Lib.hid (fun o => ((g7.trans (World.grownBy_alloc w7 o none)).block _ (heap_lt K5.out) (by simp)).trans K5.out)
  have K7 := Lib.hid (al_new w7 (oM M3))
  have XB := Lib.hid (hx3.grow (World.grownBy_alloc w7 (oM M3) none))
  have P3 := Lib.hid (show M3.p = p ∧ M3.er = c from ⟨hp3.trans P2.out.1, her3⟩)
  clear H5 K5 XA g7 hp3 her3 hx3 q0 q1 q2 q3 q4 q5 q6 q7 X3
  have e9 : (c, (27 : Int)).2 = 27 := rfl
  unfold AM.v
  rw [e9]
  clear e9
  go_wp2_with fail
  refine (Y2.out _ (H7.out _).x).mono ?_
  rintro e w9 ⟨g9, M4, tg4, rfl, hp4, her4, hx4, htg4⟩
  have s0 := fun o => (((H7.out _).grow (g9.trans (World.grownBy_alloc w9 o none))).c).1.1
  have s1 := fun o => (((H7.out _).grow (g9.trans (World.grownBy_alloc w9 o none))).c).1.2.1
  have s2 := fun o => (((H7.out _).grow (g9.trans (World.grownBy_alloc w9 o none))).c).1.2.2.1
  have s3 := fun o => (((H7.out _).grow (g9.trans (World.grownBy_alloc w9 o none))).c).1.2.2.2.1
  have s4 := fun o => (((H7.out _).grow (g9.trans (World.grownBy_alloc w9 o none))).c).1.2.2.2.2.1
  have s5 := fun o => (((H7.out _).grow (g9.trans (World.grownBy_alloc w9 o none))).c).1.2.2.2.2.2.1
  have s6 := fun o => (((H7.out _).grow (g9.trans (World.grownBy_alloc w9 o none))).c).1.2.2.2.2.2.2.1
  have s7 := fun o => (((H7.out _).grow (g9.trans (World.grownBy_alloc w9 o none))).c).1.2.2.2.2.2.2.2
  have t0 := fun o => ((cells36 (((g9.trans (World.grownBy_alloc w9 o none)).block _ (heap_lt K7.out) (by simp)).trans K7.out))).1.1
  have t1 := fun o => ((cells36 (((g9.trans (World.grownBy_alloc w9 o none)).block _ (heap_lt K7.out) (by simp)).trans K7.out))).1.2.1
  have t2 := fun o => ((cells36 (((g9.trans (World.grownBy_alloc w9 o none)).block _ (heap_lt K7.out) (by simp)).trans K7.out))).1.2.2.1
  have t3 := fun o => ((cells36 (((g9.trans (World.grownBy_alloc w9 o none)).block _ (heap_lt K7.out) (by simp)).trans K7.out))).1.2.2.2.1
  have t4 := fun o => ((cells36 (((g9.trans (World.grownBy_alloc w9 o none)).block _ (heap_lt K7.out) (by simp)).trans K7.out))).1.2.2.2.2.1
  have t5 := fun o => ((cells36 (((g9.trans (World.grownBy_alloc w9 o none)).block _ (heap_lt K7.out) (by simp)).trans K7.out))).1.2.2.2.2.2.1
  have t6 := fun o => ((cells36 (((g9.trans (World.grownBy_alloc w9 o none)).block _ (heap_lt K7.out) (by simp)).trans K7.out))).1.2.2.2.2.2.2.1
  have t7 := fun o => ((cells36 (((g9.trans (World.grownBy_alloc w9 o none)).block _ (heap_lt K7.out) (by simp)).trans K7.out))).1.2.2.2.2.2.2.2
  have u_4 := fun o => ((cells36 (((g9.trans (World.grownBy_alloc w9 o none)).block _ (heap_lt (K7a.out (oM M3))) (by simp)).trans (K7a.out (oM M3))))).1.2.2.2.2.1
  have H9 := Lib.hid ((H7.out (oM M3)).grow (g9.trans (World.grownBy_alloc w9 (oM M4) none)))
  have HC9 := Lib.hid (show HM w (w9.alloc (oM M4)) w9.heap.size M4 tg4 from ⟨H9.out.gr, al_new w9 (oM M4), hx4.grow (World.grownBy_alloc w9 (oM M4) none), (((H7.out (oM M3)).gr).trans g9).size, by
    rcases hx4.t w9.heap.size with h5 | ⟨_, h5, _⟩
    · exact h5
    · omega⟩)
  have K9 := Lib.hid (((g9.trans (World.grownBy_alloc w9 (oM M4) none)).block _ (heap_lt (K7a.out (oM M3))) (by simp)).trans (K7a.out (oM M3)))
  have XB9 := Lib.hid ((XB.out.grow g9).grow (World.grownBy_alloc w9 (oM M4) none))
  have P4 := Lib.hid (show M4.p = p ∧ M4.er = c from ⟨hp4.trans EP1.out.1, her4⟩)
  have TC := Lib.hid (show tg4 w3.heap.size = .no from (htg4 _ (H7.out (oM M3)).lt).trans (H7.out (oM M3)).tb)
  have NE := Lib.hid (show w9.heap.size ≠ w3.heap.size from by have := ((H7.out (oM M3)).grow g9).lt; omega)
  clear H7 K7 K7a XB g9 hp4 her4 hx4 htg4 r0 r1 r2 r3 r4 r5 r6 r7 Y2
  have e9 : (c, (27 : Int)).2 = 27 := rfl
  unfold AM.v
  rw [e9]
  clear e9
  go_wp2_with fail
  refine (sameM_any M3 M4 _ XB9.out.rd HC9.out.x.rd (P4.out.1.trans P3.out.1.symm) (P3.out.2.trans P4.out.2.symm) (by rw [P3.out.1]; exact HL.out) (by have := XB9.out.fc; have := XB9.out.fm; omega)).mono ?_
  rintro e w11 ⟨rfl, g11⟩
  have H11 := Lib.hid (H9.out.grow g11)
  have HC11 := Lib.hid (HC9.out.grow g11)
  have a4 := (cells36 ((g11.block _ (heap_lt K9.out) (by simp)).trans K9.out)).1.2.2.2.2.1
  have c4 := HC11.out.c.1.2.2.2.2.1
  rw [show M2.steps = a.steps from congrArg MM.steps P2.out.2] at a4
  rw [show M4.steps = (N : Int) from (congrArg MM.steps P4.out.2).trans CS.out] at c4
  clear s0 s1 s2 s3 s4 s5 s6 s7 t0 t1 t2 t3 t4 t5 t6 t7 u_4 H9 HC9 K9 XB9 P2 P3 g11
  generalize w3.heap.size = b3 at *
  generalize w9.heap.size = b9 at *
  generalize w5.heap.size = b5 at *
  rw [has] at a4
  have z1 : ¬ ((KN : Int) < (N : Int)) := by omega
  have z2 : (N : Int) = (KN : Int) := by omega
  go_wp2_with fail
  have J0 := Lib.hid (show HM w w11 b3 M1 tg0 ∧ HM w w11 b9 M4 tg4 ∧ M1.p = p ∧ M1.er = itM 0 bm from ⟨H11.out, HC11.out, EP1.out.1, EP1.out.2⟩)
  clear H11 HC11 c4 a4
  go_loopw [106] (fun i V => ∃ (j : Nat) (M : AM) (tg : Nat → Tag), j ≤ N ∧ i = .int .i64 j ∧ Hid (HM w V b3 M tg ∧ HM w V b9 M4 tg4 ∧ M.p = p ∧ M.er = itM j bm)) (fun i _ => N - (intOf i).toNat)
  case atStart => exact ⟨0, M1, tg0, Nat.zero_le _, rfl, J0⟩
  case round =>
    clear J0 EP1
    obtain ⟨j, M, tg, hj, rfl, HH⟩ := hrel
    obtain ⟨⟨p0, p1, p2, p3, p4, p5, p6, p7⟩, pf⟩ := HH.out.1.c
    by_cases hlt : j < N
    · have SJ := Lib.hid (fun V hx => STP.out j hlt M tg V hx HH.out.2.2.2)
      have sa := IS.out j hj
      have sb := IS.out (j + 1) (by omega)
      have SS := Lib.hid (show (itM j bm).steps = j ∧ (itM (j + 1) bm).steps = ((j + 1 : Nat) : Int) from ⟨sa, sb⟩)
      clear sa sb
      go_wp2_with fail
      refine (SJ.out _ HH.out.1.x).mono ?_
      rintro e w13 ⟨g13, M', tg', rfl, hp', her', hx', htg'⟩
      have e9 : (itM (j + 1) bm, (0 : Int)).2 = 0 := rfl
      have st1 : M.steps = j := (congrArg MM.steps HH.out.2.2.2).trans SS.out.1
      have st2 : M'.steps = ((j + 1 : Nat) : Int) := (congrArg MM.steps her').trans SS.out.2
      have cmpA : (M'.steps != IntKind.i64.wrap (M.steps + 1)) = false := by rw [st1, st2, IntWalk.i64_in _ ⟨by omega, by omega⟩]; simp
      have cmpB : (M'.steps == IntKind.i64.wrap (M.steps + 1)) = true := by rw [st1, st2, IntWalk.i64_in _ ⟨by omega, by omega⟩]; simp
      have cmpD : (M'.steps != M.steps + 1) = false := by rw [st1, st2]; simp
      have cmpE : (M'.steps == M.steps + 1) = true := by rw [st1, st2]; simp
      have wst : IntKind.i64.wrap (M.steps + 1) = M.steps + 1 := by rw [st1]; exact IntWalk.i64_in _ ⟨by omega, by omega⟩
      have g14 := g13.trans (World.grownBy_alloc w13 (oM M') none)
      have B3 := Lib.hid (HH.out.1.back g14 (hx'.grow (World.grownBy_alloc w13 (oM M') none)) htg')
      have B9 := Lib.hid ((HH.out.2.1.grow g14).put M' HH.out.1.hb NE.out TC.out)
      have q0 := fun o => ((HH.out.1.grow (g13.trans (World.grownBy_alloc w13 o none))).c).1.1
      have q1 := fun o => ((HH.out.1.grow (g13.trans (World.grownBy_alloc w13 o none))).c).1.2.1
      have q2 := fun o => ((HH.out.1.grow (g13.trans (World.grownBy_alloc w13 o none))).c).1.2.2.1
      have q3 := fun o => ((HH.out.1.grow (g13.trans (World.grownBy_alloc w13 o none))).c).1.2.2.2.1
      have q4 := fun o => ((HH.out.1.grow (g13.trans (World.grownBy_alloc w13 o none))).c).1.2.2.2.2.1
      have q5 := fun o => ((HH.out.1.grow (g13.trans (World.grownBy_alloc w13 o none))).c).1.2.2.2.2.2.1
      have q6 := fun o => ((HH.out.1.grow (g13.trans (World.grownBy_alloc w13 o none))).c).1.2.2.2.2.2.2.1
      have q7 := fun o => ((HH.out.1.grow (g13.trans (World.grownBy_alloc w13 o none))).c).1.2.2.2.2.2.2.2
      have qf := fun o => ((HH.out.1.grow (g13.trans (World.grownBy_alloc w13 o none))).c).2
      have JP := Lib.hid (show M'.p = p ∧ M'.er = itM (j + 1) bm from ⟨hp'.trans HH.out.2.2.1, her'⟩)
      clear p0 p1 p2 p3 p4 p5 p6 p7 pf st1 st2 g13 g14 hp' her' hx' htg' SJ SS HH
      unfold AM.v
      rw [e9]
      clear e9
      go_wp2_with fail
      exact ⟨⟨j + 1, M', tg', by omega, by simp, Lib.hid ⟨B3.out, B9.out, JP.out.1, JP.out.2⟩⟩, by simp [intOf]; omega⟩
    · obtain rfl : j = N := by omega
      obtain ⟨⟨v0, v1, v2, v3, v4, v5, v6, v7⟩, -⟩ := HH.out.2.1.c
      have SM := Lib.hid (sameM_any M M4 wr HH.out.1.x.rd HH.out.2.1.x.rd (P4.out.1.trans HH.out.2.2.1.symm) ((HH.out.2.2.2.trans CN.out.symm).trans P4.out.2.symm) (by rw [HH.out.2.2.1]; exact HL.out) (by have := HH.out.1.x.fc; have := HH.out.1.x.fm; omega))
      go_wp2_with (first | (go_at_call 17; refine SM.out.mono ?_; rintro e wa ⟨rfl, ga⟩; have GA := Lib.hid (HH.out.1.gr.trans ga); clear ga) | (go_at_call 14; refine (AW.out _).mono ?_; rintro e wb ⟨rfl, gb⟩; have GB := Lib.hid (GA.out.trans gb); clear gb))
      go_ret
      exact ⟨rfl, GB.out⟩
set_option maxRecDepth 100000 in
set_option maxHeartbeats 8000000 in
theorem law_pieces_27_0 (p : Prg) (s x y : Int) (st : Stt) (ss : List Stt) (a c : MM) (k n KN N : Nat) (w : World) (hp : p.Rd w) (hl : LenP p) (h : Small p) (hs : p.ss = st :: ss) (he : errP p = 0) (x0 : 0 ≤ x) (x1 : x ≤ 255) (y0 : 0 ≤ y) (y1 : y ≤ 255) (hk : x.tmod 101 = (k : Int)) (hn : y.tmod 101 = (n : Int)) (hk1 : k ≤ 100) (hn1 : n ≤ 100) (hKN : k + n = KN)
    (r1 : runE k (begM p.bs st.block s) = (a, 27)) (r2 : runE KN (begM p.bs st.block s) = (c, 0)) (r3 : (if ended a then (a, 0) else runE n a) = (c, (0 : Int))) (hIa : MI 401 a) (hast : a.steps ≤ 100000) (has : a.steps = k) (hcs : c.steps = N) (hNK : N ≤ KN) (hcN : c = itM N (begM p.bs st.block s)) (hN : N ≤ 200) (hit : ∀ j, j ≤ N → MI 401 (itM j (begM p.bs st.block s)) ∧ (itM j (begM p.bs st.block s)).steps = j ∧ (j < N → ended (itM j (begM p.bs st.block s)) = false)) :
    Calls Tryd.prog 9 #[p.v, .int .u64 s, .int .u8 x, .int .u8 y] w fun e w' => e = .returned (.bool true) ∧ w.grownBy w' none := by
  have L0 := Lib.hid (LC.of p w)
  have AW := Lib.hid awake_any
  have HPW := Lib.hid hp
  have HL := Lib.hid hl
  have HP := Lib.hid (fun V (h1 : LC p w V) => hp.below (below_of h1.gr))
  have GN := Lib.hid (fun V (h1 : LC p w V) => great_not p V (hp.below (below_of h1.gr)) hl h)
  have ST := Lib.hid (fun V (h1 : p.Rd V) => begin_at_ p s st ss V h1 hl hs he)
  have X1 := Lib.hid (fun (B : Nat) (V : World) (hx : (bAM p st.block s B).RdX w (tgB B) V) => (by rw [← r1]; exact begin_run_ p s st ss w V B k hl hs he (by omega) hx : Calls Tryd.prog 19 #[(bAM p st.block s B).v, iv k] V (RunP w (tgB B) (bAM p st.block s B) V (a, 27))))
  have X2 := Lib.hid (fun (B : Nat) (V : World) (hx : (bAM p st.block s B).RdX w (tgB B) V) => (by rw [← r2]; exact begin_run_ p s st ss w V B KN hl hs he (by omega) hx : Calls Tryd.prog 19 #[(bAM p st.block s B).v, iv KN] V (RunP w (tgB B) (bAM p st.block s B) V (c, 0))))
  have X3 := Lib.hid (fun (M : AM) (tg : Nat → Tag) (V : World) (hx : M.RdX w tg V) (hm : M.er = a) => (by
    rw [← r3]
    by_cases hea : ended a = true
    · rw [if_pos hea, ← hm]
      exact run_end w tg M V n hx (by rw [hm]; exact hea) (by omega)
    · rw [if_neg hea, ← hm]
      exact run_go w tg M V n 401 hx (by rw [hm]; simpa using hea) (by rw [hm]; exact hIa) (by omega) (by omega) (by
        have h7 : M.steps = a.steps := congrArg MM.steps hm
        have h8 : a.steps ≤ 100000 := hast
        omega) : Calls Tryd.prog 19 #[M.v, iv n] V (RunP w tg M V (c, 0))))
  have STP := Lib.hid (fun (j : Nat) (hj : j < N) (M : AM) (tg : Nat → Tag) (V : World) (hx : M.RdX w tg V) (hm : M.er = itM j (begM p.bs st.block s)) => (by
    obtain ⟨i1, i2, i3⟩ := hit j (by omega)
    have := stepS_go w tg M V 401 hx (by rw [hm]; exact i3 hj) (by rw [hm]; exact i1) (by omega) (by
      have h7 : M.steps = (itM j (begM p.bs st.block s)).steps := congrArg MM.steps hm
      omega)
    rw [hm] at this
    exact this : Calls Tryd.prog 22 #[M.v] V (RunP w tg M V (itM (j + 1) (begM p.bs st.block s), 0))))
  have IS := Lib.hid (fun (j : Nat) (hj : j ≤ N) => (hit j hj).2.1)
  have CN := Lib.hid hcN
  have CS := Lib.hid hcs
  have ww1 : IntKind.i64.wrap x = x := IntWalk.i64_in _ ⟨by omega, by omega⟩
  have ww2 : IntKind.i64.wrap y = y := IntWalk.i64_in _ ⟨by omega, by omega⟩
  have ww3 : IntKind.i64.wrap ((k : Int) + (n : Int)) = (KN : Int) := by rw [IntWalk.i64_in _ ⟨by omega, by omega⟩]; omega
  have BM0 := Lib.hid (bAM_er p st.block s)
  clear hp hl h hs he r1 r2 r3 hit hcN hcs hIa
  generalize begM p.bs st.block s = bm at *
  unfold Prg.v at *
  go_enter Tryd.func9, Tryd.ntmps9
  go_wp2_with (first | (go_at_call 11; refine (GN.out _ L0.out).mono ?_; rintro e w1 ⟨rfl, g1⟩; have L1 := Lib.hid (L0.out.grow g1); obtain ⟨c0, c1⟩ := L1.out.c; clear g1))
  refine (ST.out w1 (HP.out _ L1.out)).mono ?_
  rintro e w3 ⟨g3, B1, rfl, hB1, kB1⟩
  have l3 := L1.out.grow g3
  have h1 := HM.start (p := p) (blk := st.block) (seed := s) HPW.out l3.gr (Nat.le_trans L1.out.gr.size hB1) kB1
  have x1' := X1.out B1
  have x2' := X2.out B1
  have ep1 : (bAM p st.block s B1).p = p := rfl
  have em1 : (bAM p st.block s B1).er = bm := BM0.out B1
  obtain ⟨M1, hM1⟩ : ∃ M1, M1 = bAM p st.block s B1 := ⟨_, rfl⟩
  rw [← hM1] at x1' x2' h1 ep1 em1 ⊢
  have EP1 := Lib.hid (show M1.p = p ∧ M1.er = bm from ⟨ep1, em1⟩)
  have Y1 := Lib.hid x1'
  have Y2 := Lib.hid x2'
  have H1 := Lib.hid h1
  clear L1 g3 hB1 kB1 h1 l3 hM1 X1 X2 x1' x2' ep1 em1 c0 c1 ST GN HP L0 BM0
  generalize tgB B1 = tg0 at *
  unfold AM.v
  go_wp2_with fail
  refine (Y1.out _ H1.out.x).mono ?_
  rintro e w5 ⟨g5, M2, tg2, rfl, hp2, her2, hx2, -⟩
  have q0 := fun o => ((H1.out.grow (g5.trans (World.grownBy_alloc w5 o none))).c).1.1
  have q1 := fun o => ((H1.out.grow (g5.trans (World.grownBy_alloc w5 o none))).c).1.2.1
  have q2 := fun o => ((H1.out.grow (g5.trans (World.grownBy_alloc w5 o none))).c).1.2.2.1
  have q3 := fun o => ((H1.out.grow (g5.trans (World.grownBy_alloc w5 o none))).c).1.2.2.2.1
  have q4 := fun o => ((H1.out.grow (g5.trans (World.grownBy_alloc w5 o none))).c).1.2.2.2.2.1
  have q5 := fun o => ((H1.out.grow (g5.trans (World.grownBy_alloc w5 o none))).c).1.2.2.2.2.2.1
  have q6 := fun o => ((H1.out.grow (g5.trans (World.grownBy_alloc w5 o none))).c).1.2.2.2.2.2.2.1
  have q7 := fun o => ((H1.out.grow (g5.trans (World.grownBy_alloc w5 o none))).c).1.2.2.2.2.2.2.2
  have H5 := Lib.hid (fun o => H1.out.grow (g5.trans (World.grownBy_alloc w5 o none)))
  have K5 := Lib.hid (al_new w5 (oM M2))
  have XA := Lib.hid (hx2.grow (World.grownBy_alloc w5 (oM M2) none))
  have P2 := Lib.hid (show M2.p = p ∧ M2.er = a from ⟨hp2.trans EP1.out.1, her2⟩)
  clear H1 Y1 g5 hp2 her2 hx2
  have e9 : (a, (27 : Int)).2 = 27 := rfl
  unfold AM.v
  rw [e9]
  clear e9
  go_wp2_with fail
  refine (X3.out M2 tg2 _ XA.out P2.out.2).mono ?_
  rintro e w7 ⟨g7, M3, tg3, rfl, hp3, her3, hx3, -⟩
  have r0 := fun o => (((H5.out _).grow (g7.trans (World.grownBy_alloc w7 o none))).c).1.1
  have r1 := fun o => (((H5.out _).grow (g7.trans (World.grownBy_alloc w7 o none))).c).1.2.1
  have r2 := fun o => (((H5.out _).grow (g7.trans (World.grownBy_alloc w7 o none))).c).1.2.2.1
  have r3 := fun o => (((H5.out _).grow (g7.trans (World.grownBy_alloc w7 o none))).c).1.2.2.2.1
  have r4 := fun o => (((H5.out _).grow (g7.trans (World.grownBy_alloc w7 o none))).c).1.2.2.2.2.1
  have r5 := fun o => (((H5.out _).grow (g7.trans (World.grownBy_alloc w7 o none))).c).1.2.2.2.2.2.1
  have r6 := fun o => (((H5.out _).grow (g7.trans (World.grownBy_alloc w7 o none))).c).1.2.2.2.2.2.2.1
  have r7 := fun o => (((H5.out _).grow (g7.trans (World.grownBy_alloc w7 o none))).c).1.2.2.2.2.2.2.2
  have H7 := Lib.hid (fun o => (H5.out (oM M2)).grow (g7.trans (World.grownBy_alloc w7 o none)))
  have K7a := Lib.hid (fun o => ((g7.trans (World.grownBy_alloc w7 o none)).block _ (heap_lt K5.out) (by simp)).trans K5.out)
  have K7 := Lib.hid (al_new w7 (oM M3))
  have XB := Lib.hid (hx3.grow (World.grownBy_alloc w7 (oM M3) none))
  have P3 := Lib.hid (show M3.p = p ∧ M3.er = c from ⟨hp3.trans P2.out.1, her3⟩)
  clear H5 K5 XA g7 hp3 her3 hx3 q0 q1 q2 q3 q4 q5 q6 q7 X3
  have e9 : (c, (0 : Int)).2 = 0 := rfl
  unfold AM.v
  rw [e9]
  clear e9
  go_wp2_with fail
  refine (Y2.out _ (H7.out _).x).mono ?_
  rintro e w9 ⟨g9, M4, tg4, rfl, hp4, her4, hx4, htg4⟩
  have s0 := fun o => (((H7.out _).grow (g9.trans (World.grownBy_alloc w9 o none))).c).1.1
  have s1 := fun o => (((H7.out _).grow (g9.trans (World.grownBy_alloc w9 o none))).c).1.2.1
  have s2 := fun o => (((H7.out _).grow (g9.trans (World.grownBy_alloc w9 o none))).c).1.2.2.1
  have s3 := fun o => (((H7.out _).grow (g9.trans (World.grownBy_alloc w9 o none))).c).1.2.2.2.1
  have s4 := fun o => (((H7.out _).grow (g9.trans (World.grownBy_alloc w9 o none))).c).1.2.2.2.2.1
  have s5 := fun o => (((H7.out _).grow (g9.trans (World.grownBy_alloc w9 o none))).c).1.2.2.2.2.2.1
  have s6 := fun o => (((H7.out _).grow (g9.trans (World.grownBy_alloc w9 o none))).c).1.2.2.2.2.2.2.1
  have s7 := fun o => (((H7.out _).grow (g9.trans (World.grownBy_alloc w9 o none))).c).1.2.2.2.2.2.2.2
  have t0 := fun o => ((cells36 (((g9.trans (World.grownBy_alloc w9 o none)).block _ (heap_lt K7.out) (by simp)).trans K7.out))).1.1
  have t1 := fun o => ((cells36 (((g9.trans (World.grownBy_alloc w9 o none)).block _ (heap_lt K7.out) (by simp)).trans K7.out))).1.2.1
  have t2 := fun o => ((cells36 (((g9.trans (World.grownBy_alloc w9 o none)).block _ (heap_lt K7.out) (by simp)).trans K7.out))).1.2.2.1
  have t3 := fun o => ((cells36 (((g9.trans (World.grownBy_alloc w9 o none)).block _ (heap_lt K7.out) (by simp)).trans K7.out))).1.2.2.2.1
  have t4 := fun o => ((cells36 (((g9.trans (World.grownBy_alloc w9 o none)).block _ (heap_lt K7.out) (by simp)).trans K7.out))).1.2.2.2.2.1
  have t5 := fun o => ((cells36 (((g9.trans (World.grownBy_alloc w9 o none)).block _ (heap_lt K7.out) (by simp)).trans K7.out))).1.2.2.2.2.2.1
  have t6 := fun o => ((cells36 (((g9.trans (World.grownBy_alloc w9 o none)).block _ (heap_lt K7.out) (by simp)).trans K7.out))).1.2.2.2.2.2.2.1
  have t7 := fun o => ((cells36 (((g9.trans (World.grownBy_alloc w9 o none)).block _ (heap_lt K7.out) (by simp)).trans K7.out))).1.2.2.2.2.2.2.2
  have u_4 := fun o => ((cells36 (((g9.trans (World.grownBy_alloc w9 o none)).block _ (heap_lt (K7a.out (oM M3))) (by simp)).trans (K7a.out (oM M3))))).1.2.2.2.2.1
  have H9 := Lib.hid ((H7.out (oM M3)).grow (g9.trans (World.grownBy_alloc w9 (oM M4) none)))
  have HC9 := Lib.hid (show HM w (w9.alloc (oM M4)) w9.heap.size M4 tg4 from ⟨H9.out.gr, al_new w9 (oM M4), hx4.grow (World.grownBy_alloc w9 (oM M4) none), (((H7.out (oM M3)).gr).trans g9).size, by
    rcases hx4.t w9.heap.size with h5 | ⟨_, h5, _⟩
    · exact h5
    · omega⟩)
  have K9 := Lib.hid (((g9.trans (World.grownBy_alloc w9 (oM M4) none)).block _ (heap_lt (K7a.out (oM M3))) (by simp)).trans (K7a.out (oM M3)))
  have XB9 := Lib.hid ((XB.out.grow g9).grow (World.grownBy_alloc w9 (oM M4) none))
  have P4 := Lib.hid (show M4.p = p ∧ M4.er = c from ⟨hp4.trans EP1.out.1, her4⟩)
  have TC := Lib.hid (show tg4 w3.heap.size = .no from (htg4 _ (H7.out (oM M3)).lt).trans (H7.out (oM M3)).tb)
  have NE := Lib.hid (show w9.heap.size ≠ w3.heap.size from by have := ((H7.out (oM M3)).grow g9).lt; omega)
  clear H7 K7 K7a XB g9 hp4 her4 hx4 htg4 r0 r1 r2 r3 r4 r5 r6 r7 Y2
  have e9 : (c, (0 : Int)).2 = 0 := rfl
  unfold AM.v
  rw [e9]
  clear e9
  go_wp2_with fail
  refine (sameM_any M3 M4 _ XB9.out.rd HC9.out.x.rd (P4.out.1.trans P3.out.1.symm) (P3.out.2.trans P4.out.2.symm) (by rw [P3.out.1]; exact HL.out) (by have := XB9.out.fc; have := XB9.out.fm; omega)).mono ?_
  rintro e w11 ⟨rfl, g11⟩
  have H11 := Lib.hid (H9.out.grow g11)
  have HC11 := Lib.hid (HC9.out.grow g11)
  have a4 := (cells36 ((g11.block _ (heap_lt K9.out) (by simp)).trans K9.out)).1.2.2.2.2.1
  have c4 := HC11.out.c.1.2.2.2.2.1
  rw [show M2.steps = a.steps from congrArg MM.steps P2.out.2] at a4
  rw [show M4.steps = (N : Int) from (congrArg MM.steps P4.out.2).trans CS.out] at c4
  clear s0 s1 s2 s3 s4 s5 s6 s7 t0 t1 t2 t3 t4 t5 t6 t7 u_4 H9 HC9 K9 XB9 P2 P3 g11
  generalize w3.heap.size = b3 at *
  generalize w9.heap.size = b9 at *
  generalize w5.heap.size = b5 at *
  rw [has] at a4
  have z1 : ¬ ((KN : Int) < (N : Int)) := by omega
  go_wp2_with fail
  have J0 := Lib.hid (show HM w w11 b3 M1 tg0 ∧ HM w w11 b9 M4 tg4 ∧ M1.p = p ∧ M1.er = itM 0 bm from ⟨H11.out, HC11.out, EP1.out.1, EP1.out.2⟩)
  rw [show decide (KN < N) = false from decide_eq_false (by omega)]
  clear H11 HC11 c4 a4 z1
  go_loopw [106] (fun i V => ∃ (j : Nat) (M : AM) (tg : Nat → Tag), j ≤ N ∧ i = .int .i64 j ∧ Hid (HM w V b3 M tg ∧ HM w V b9 M4 tg4 ∧ M.p = p ∧ M.er = itM j bm)) (fun i _ => N - (intOf i).toNat)
  case atStart => exact ⟨0, M1, tg0, Nat.zero_le _, rfl, J0⟩
  case round =>
    clear J0 EP1
    obtain ⟨j, M, tg, hj, rfl, HH⟩ := hrel
    obtain ⟨⟨p0, p1, p2, p3, p4, p5, p6, p7⟩, pf⟩ := HH.out.1.c
    by_cases hlt : j < N
    · have SJ := Lib.hid (fun V hx => STP.out j hlt M tg V hx HH.out.2.2.2)
      have sa := IS.out j hj
      have sb := IS.out (j + 1) (by omega)
      have SS := Lib.hid (show (itM j bm).steps = j ∧ (itM (j + 1) bm).steps = ((j + 1 : Nat) : Int) from ⟨sa, sb⟩)
      clear sa sb
      go_wp2_with fail
      refine (SJ.out _ HH.out.1.x).mono ?_
      rintro e w13 ⟨g13, M', tg', rfl, hp', her', hx', htg'⟩
      have e9 : (itM (j + 1) bm, (0 : Int)).2 = 0 := rfl
      have st1 : M.steps = j := (congrArg MM.steps HH.out.2.2.2).trans SS.out.1
      have st2 : M'.steps = ((j + 1 : Nat) : Int) := (congrArg MM.steps her').trans SS.out.2
      have cmpA : (M'.steps != IntKind.i64.wrap (M.steps + 1)) = false := by rw [st1, st2, IntWalk.i64_in _ ⟨by omega, by omega⟩]; simp
      have cmpB : (M'.steps == IntKind.i64.wrap (M.steps + 1)) = true := by rw [st1, st2, IntWalk.i64_in _ ⟨by omega, by omega⟩]; simp
      have cmpD : (M'.steps != M.steps + 1) = false := by rw [st1, st2]; simp
      have cmpE : (M'.steps == M.steps + 1) = true := by rw [st1, st2]; simp
      have wst : IntKind.i64.wrap (M.steps + 1) = M.steps + 1 := by rw [st1]; exact IntWalk.i64_in _ ⟨by omega, by omega⟩
      have g14 := g13.trans (World.grownBy_alloc w13 (oM M') none)
      have B3 := Lib.hid (HH.out.1.back g14 (hx'.grow (World.grownBy_alloc w13 (oM M') none)) htg')
      have B9 := Lib.hid ((HH.out.2.1.grow g14).put M' HH.out.1.hb NE.out TC.out)
      have q0 := fun o => ((HH.out.1.grow (g13.trans (World.grownBy_alloc w13 o none))).c).1.1
      have q1 := fun o => ((HH.out.1.grow (g13.trans (World.grownBy_alloc w13 o none))).c).1.2.1
      have q2 := fun o => ((HH.out.1.grow (g13.trans (World.grownBy_alloc w13 o none))).c).1.2.2.1
      have q3 := fun o => ((HH.out.1.grow (g13.trans (World.grownBy_alloc w13 o none))).c).1.2.2.2.1
      have q4 := fun o => ((HH.out.1.grow (g13.trans (World.grownBy_alloc w13 o none))).c).1.2.2.2.2.1
      have q5 := fun o => ((HH.out.1.grow (g13.trans (World.grownBy_alloc w13 o none))).c).1.2.2.2.2.2.1
      have q6 := fun o => ((HH.out.1.grow (g13.trans (World.grownBy_alloc w13 o none))).c).1.2.2.2.2.2.2.1
      have q7 := fun o => ((HH.out.1.grow (g13.trans (World.grownBy_alloc w13 o none))).c).1.2.2.2.2.2.2.2
      have qf := fun o => ((HH.out.1.grow (g13.trans (World.grownBy_alloc w13 o none))).c).2
      have JP := Lib.hid (show M'.p = p ∧ M'.er = itM (j + 1) bm from ⟨hp'.trans HH.out.2.2.1, her'⟩)
      clear p0 p1 p2 p3 p4 p5 p6 p7 pf st1 st2 g13 g14 hp' her' hx' htg' SJ SS HH
      unfold AM.v
      rw [e9]
      clear e9
      go_wp2_with fail
      exact ⟨⟨j + 1, M', tg', by omega, by simp, Lib.hid ⟨B3.out, B9.out, JP.out.1, JP.out.2⟩⟩, by simp [intOf]; omega⟩
    · obtain rfl : j = N := by omega
      obtain ⟨⟨v0, v1, v2, v3, v4, v5, v6, v7⟩, -⟩ := HH.out.2.1.c
      have SM := Lib.hid (sameM_any M M4 wr HH.out.1.x.rd HH.out.2.1.x.rd (P4.out.1.trans HH.out.2.2.1.symm) ((HH.out.2.2.2.trans CN.out.symm).trans P4.out.2.symm) (by rw [HH.out.2.2.1]; exact HL.out) (by have := HH.out.1.x.fc; have := HH.out.1.x.fm; omega))
      go_wp2_with (first | (go_at_call 17; refine SM.out.mono ?_; rintro e wa ⟨rfl, ga⟩; have GA := Lib.hid (HH.out.1.gr.trans ga); clear ga) | (go_at_call 14; refine (AW.out _).mono ?_; rintro e wb ⟨rfl, gb⟩; have GB := Lib.hid (GA.out.trans gb); clear gb))
      go_ret
      exact ⟨rfl, GB.out⟩
set_option maxRecDepth 100000 in
set_option maxHeartbeats 8000000 in
theorem law_pieces_0_0 (p : Prg) (s x y : Int) (st : Stt) (ss : List Stt) (a c : MM) (k n KN N : Nat) (w : World) (hp : p.Rd w) (hl : LenP p) (h : Small p) (hs : p.ss = st :: ss) (he : errP p = 0) (x0 : 0 ≤ x) (x1 : x ≤ 255) (y0 : 0 ≤ y) (y1 : y ≤ 255) (hk : x.tmod 101 = (k : Int)) (hn : y.tmod 101 = (n : Int)) (hk1 : k ≤ 100) (hn1 : n ≤ 100) (hKN : k + n = KN)
    (r1 : runE k (begM p.bs st.block s) = (a, 0)) (r2 : runE KN (begM p.bs st.block s) = (c, 0)) (r3 : (if ended a then (a, 0) else runE n a) = (c, (0 : Int))) (hIa : MI 401 a) (hast : a.steps ≤ 100000) (hcs : c.steps = N) (hNK : N ≤ KN) (hcN : c = itM N (begM p.bs st.block s)) (hN : N ≤ 200) (hit : ∀ j, j ≤ N → MI 401 (itM j (begM p.bs st.block s)) ∧ (itM j (begM p.bs st.block s)).steps = j ∧ (j < N → ended (itM j (begM p.bs st.block s)) = false)) :
    Calls Tryd.prog 9 #[p.v, .int .u64 s, .int .u8 x, .int .u8 y] w fun e w' => e = .returned (.bool true) ∧ w.grownBy w' none := by
  have L0 := Lib.hid (LC.of p w)
  have AW := Lib.hid awake_any
  have HPW := Lib.hid hp
  have HL := Lib.hid hl
  have HP := Lib.hid (fun V (h1 : LC p w V) => hp.below (below_of h1.gr))
  have GN := Lib.hid (fun V (h1 : LC p w V) => great_not p V (hp.below (below_of h1.gr)) hl h)
  have ST := Lib.hid (fun V (h1 : p.Rd V) => begin_at_ p s st ss V h1 hl hs he)
  have X1 := Lib.hid (fun (B : Nat) (V : World) (hx : (bAM p st.block s B).RdX w (tgB B) V) => (by rw [← r1]; exact begin_run_ p s st ss w V B k hl hs he (by omega) hx : Calls Tryd.prog 19 #[(bAM p st.block s B).v, iv k] V (RunP w (tgB B) (bAM p st.block s B) V (a, 0))))
  have X2 := Lib.hid (fun (B : Nat) (V : World) (hx : (bAM p st.block s B).RdX w (tgB B) V) => (by rw [← r2]; exact begin_run_ p s st ss w V B KN hl hs he (by omega) hx : Calls Tryd.prog 19 #[(bAM p st.block s B).v, iv KN] V (RunP w (tgB B) (bAM p st.block s B) V (c, 0))))
  have X3 := Lib.hid (fun (M : AM) (tg : Nat → Tag) (V : World) (hx : M.RdX w tg V) (hm : M.er = a) => (by
    rw [← r3]
    by_cases hea : ended a = true
    · rw [if_pos hea, ← hm]
      exact run_end w tg M V n hx (by rw [hm]; exact hea) (by omega)
    · rw [if_neg hea, ← hm]
      exact run_go w tg M V n 401 hx (by rw [hm]; simpa using hea) (by rw [hm]; exact hIa) (by omega) (by omega) (by
        have h7 : M.steps = a.steps := congrArg MM.steps hm
        have h8 : a.steps ≤ 100000 := hast
        omega) : Calls Tryd.prog 19 #[M.v, iv n] V (RunP w tg M V (c, 0))))
  have STP := Lib.hid (fun (j : Nat) (hj : j < N) (M : AM) (tg : Nat → Tag) (V : World) (hx : M.RdX w tg V) (hm : M.er = itM j (begM p.bs st.block s)) => (by
    obtain ⟨i1, i2, i3⟩ := hit j (by omega)
    have := stepS_go w tg M V 401 hx (by rw [hm]; exact i3 hj) (by rw [hm]; exact i1) (by omega) (by
      have h7 : M.steps = (itM j (begM p.bs st.block s)).steps := congrArg MM.steps hm
      omega)
    rw [hm] at this
    exact this : Calls Tryd.prog 22 #[M.v] V (RunP w tg M V (itM (j + 1) (begM p.bs st.block s), 0))))
  have IS := Lib.hid (fun (j : Nat) (hj : j ≤ N) => (hit j hj).2.1)
  have CN := Lib.hid hcN
  have CS := Lib.hid hcs
  have ww1 : IntKind.i64.wrap x = x := IntWalk.i64_in _ ⟨by omega, by omega⟩
  have ww2 : IntKind.i64.wrap y = y := IntWalk.i64_in _ ⟨by omega, by omega⟩
  have ww3 : IntKind.i64.wrap ((k : Int) + (n : Int)) = (KN : Int) := by rw [IntWalk.i64_in _ ⟨by omega, by omega⟩]; omega
  have BM0 := Lib.hid (bAM_er p st.block s)
  clear hp hl h hs he r1 r2 r3 hit hcN hcs hIa
  generalize begM p.bs st.block s = bm at *
  unfold Prg.v at *
  go_enter Tryd.func9, Tryd.ntmps9
  go_wp2_with (first | (go_at_call 11; refine (GN.out _ L0.out).mono ?_; rintro e w1 ⟨rfl, g1⟩; have L1 := Lib.hid (L0.out.grow g1); obtain ⟨c0, c1⟩ := L1.out.c; clear g1))
  refine (ST.out w1 (HP.out _ L1.out)).mono ?_
  rintro e w3 ⟨g3, B1, rfl, hB1, kB1⟩
  have l3 := L1.out.grow g3
  have h1 := HM.start (p := p) (blk := st.block) (seed := s) HPW.out l3.gr (Nat.le_trans L1.out.gr.size hB1) kB1
  have x1' := X1.out B1
  have x2' := X2.out B1
  have ep1 : (bAM p st.block s B1).p = p := rfl
  have em1 : (bAM p st.block s B1).er = bm := BM0.out B1
  obtain ⟨M1, hM1⟩ : ∃ M1, M1 = bAM p st.block s B1 := ⟨_, rfl⟩
  rw [← hM1] at x1' x2' h1 ep1 em1 ⊢
  have EP1 := Lib.hid (show M1.p = p ∧ M1.er = bm from ⟨ep1, em1⟩)
  have Y1 := Lib.hid x1'
  have Y2 := Lib.hid x2'
  have H1 := Lib.hid h1
  clear L1 g3 hB1 kB1 h1 l3 hM1 X1 X2 x1' x2' ep1 em1 c0 c1 ST GN HP L0 BM0
  generalize tgB B1 = tg0 at *
  unfold AM.v
  go_wp2_with fail
  refine (Y1.out _ H1.out.x).mono ?_
  rintro e w5 ⟨g5, M2, tg2, rfl, hp2, her2, hx2, -⟩
  have q0 := fun o => ((H1.out.grow (g5.trans (World.grownBy_alloc w5 o none))).c).1.1
  have q1 := fun o => ((H1.out.grow (g5.trans (World.grownBy_alloc w5 o none))).c).1.2.1
  have q2 := fun o => ((H1.out.grow (g5.trans (World.grownBy_alloc w5 o none))).c).1.2.2.1
  have q3 := fun o => ((H1.out.grow (g5.trans (World.grownBy_alloc w5 o none))).c).1.2.2.2.1
  have q4 := fun o => ((H1.out.grow (g5.trans (World.grownBy_alloc w5 o none))).c).1.2.2.2.2.1
  have q5 := fun o => ((H1.out.grow (g5.trans (World.grownBy_alloc w5 o none))).c).1.2.2.2.2.2.1
  have q6 := fun o => ((H1.out.grow (g5.trans (World.grownBy_alloc w5 o none))).c).1.2.2.2.2.2.2.1
  have q7 := fun o => ((H1.out.grow (g5.trans (World.grownBy_alloc w5 o none))).c).1.2.2.2.2.2.2.2
  have H5 := Lib.hid (fun o => H1.out.grow (g5.trans (World.grownBy_alloc w5 o none)))
  have K5 := Lib.hid (al_new w5 (oM M2))
  have XA := Lib.hid (hx2.grow (World.grownBy_alloc w5 (oM M2) none))
  have P2 := Lib.hid (show M2.p = p ∧ M2.er = a from ⟨hp2.trans EP1.out.1, her2⟩)
  clear H1 Y1 g5 hp2 her2 hx2
  have e9 : (a, (0 : Int)).2 = 0 := rfl
  unfold AM.v
  rw [e9]
  clear e9
  go_wp2_with fail
  refine (X3.out M2 tg2 _ XA.out P2.out.2).mono ?_
  rintro e w7 ⟨g7, M3, tg3, rfl, hp3, her3, hx3, -⟩
  have r0 := fun o => (((H5.out _).grow (g7.trans (World.grownBy_alloc w7 o none))).c).1.1
  have r1 := fun o => (((H5.out _).grow (g7.trans (World.grownBy_alloc w7 o none))).c).1.2.1
  have r2 := fun o => (((H5.out _).grow (g7.trans (World.grownBy_alloc w7 o none))).c).1.2.2.1
  have r3 := fun o => (((H5.out _).grow (g7.trans (World.grownBy_alloc w7 o none))).c).1.2.2.2.1
  have r4 := fun o => (((H5.out _).grow (g7.trans (World.grownBy_alloc w7 o none))).c).1.2.2.2.2.1
  have r5 := fun o => (((H5.out _).grow (g7.trans (World.grownBy_alloc w7 o none))).c).1.2.2.2.2.2.1
  have r6 := fun o => (((H5.out _).grow (g7.trans (World.grownBy_alloc w7 o none))).c).1.2.2.2.2.2.2.1
  have r7 := fun o => (((H5.out _).grow (g7.trans (World.grownBy_alloc w7 o none))).c).1.2.2.2.2.2.2.2
  have H7 := Lib.hid (fun o => (H5.out (oM M2)).grow (g7.trans (World.grownBy_alloc w7 o none)))
  have K7a := Lib.hid (fun o => ((g7.trans (World.grownBy_alloc w7 o none)).block _ (heap_lt K5.out) (by simp)).trans K5.out)
  have K7 := Lib.hid (al_new w7 (oM M3))
  have XB := Lib.hid (hx3.grow (World.grownBy_alloc w7 (oM M3) none))
  have P3 := Lib.hid (show M3.p = p ∧ M3.er = c from ⟨hp3.trans P2.out.1, her3⟩)
  clear H5 K5 XA g7 hp3 her3 hx3 q0 q1 q2 q3 q4 q5 q6 q7 X3
  have e9 : (c, (0 : Int)).2 = 0 := rfl
  unfold AM.v
  rw [e9]
  clear e9
  go_wp2_with fail
  refine (Y2.out _ (H7.out _).x).mono ?_
  rintro e w9 ⟨g9, M4, tg4, rfl, hp4, her4, hx4, htg4⟩
  have s0 := fun o => (((H7.out _).grow (g9.trans (World.grownBy_alloc w9 o none))).c).1.1
  have s1 := fun o => (((H7.out _).grow (g9.trans (World.grownBy_alloc w9 o none))).c).1.2.1
  have s2 := fun o => (((H7.out _).grow (g9.trans (World.grownBy_alloc w9 o none))).c).1.2.2.1
  have s3 := fun o => (((H7.out _).grow (g9.trans (World.grownBy_alloc w9 o none))).c).1.2.2.2.1
  have s4 := fun o => (((H7.out _).grow (g9.trans (World.grownBy_alloc w9 o none))).c).1.2.2.2.2.1
  have s5 := fun o => (((H7.out _).grow (g9.trans (World.grownBy_alloc w9 o none))).c).1.2.2.2.2.2.1
  have s6 := fun o => (((H7.out _).grow (g9.trans (World.grownBy_alloc w9 o none))).c).1.2.2.2.2.2.2.1
  have s7 := fun o => (((H7.out _).grow (g9.trans (World.grownBy_alloc w9 o none))).c).1.2.2.2.2.2.2.2
  have t0 := fun o => ((cells36 (((g9.trans (World.grownBy_alloc w9 o none)).block _ (heap_lt K7.out) (by simp)).trans K7.out))).1.1
  have t1 := fun o => ((cells36 (((g9.trans (World.grownBy_alloc w9 o none)).block _ (heap_lt K7.out) (by simp)).trans K7.out))).1.2.1
  have t2 := fun o => ((cells36 (((g9.trans (World.grownBy_alloc w9 o none)).block _ (heap_lt K7.out) (by simp)).trans K7.out))).1.2.2.1
  have t3 := fun o => ((cells36 (((g9.trans (World.grownBy_alloc w9 o none)).block _ (heap_lt K7.out) (by simp)).trans K7.out))).1.2.2.2.1
  have t4 := fun o => ((cells36 (((g9.trans (World.grownBy_alloc w9 o none)).block _ (heap_lt K7.out) (by simp)).trans K7.out))).1.2.2.2.2.1
  have t5 := fun o => ((cells36 (((g9.trans (World.grownBy_alloc w9 o none)).block _ (heap_lt K7.out) (by simp)).trans K7.out))).1.2.2.2.2.2.1
  have t6 := fun o => ((cells36 (((g9.trans (World.grownBy_alloc w9 o none)).block _ (heap_lt K7.out) (by simp)).trans K7.out))).1.2.2.2.2.2.2.1
  have t7 := fun o => ((cells36 (((g9.trans (World.grownBy_alloc w9 o none)).block _ (heap_lt K7.out) (by simp)).trans K7.out))).1.2.2.2.2.2.2.2
  have u_4 := fun o => ((cells36 (((g9.trans (World.grownBy_alloc w9 o none)).block _ (heap_lt (K7a.out (oM M3))) (by simp)).trans (K7a.out (oM M3))))).1.2.2.2.2.1
  have H9 := Lib.hid ((H7.out (oM M3)).grow (g9.trans (World.grownBy_alloc w9 (oM M4) none)))
  have HC9 := Lib.hid (show HM w (w9.alloc (oM M4)) w9.heap.size M4 tg4 from ⟨H9.out.gr, al_new w9 (oM M4), hx4.grow (World.grownBy_alloc w9 (oM M4) none), (((H7.out (oM M3)).gr).trans g9).size, by
    rcases hx4.t w9.heap.size with h5 | ⟨_, h5, _⟩
    · exact h5
    · omega⟩)
  have K9 := Lib.hid (((g9.trans (World.grownBy_alloc w9 (oM M4) none)).block _ (heap_lt (K7a.out (oM M3))) (by simp)).trans (K7a.out (oM M3)))
  have XB9 := Lib.hid ((XB.out.grow g9).grow (World.grownBy_alloc w9 (oM M4) none))
  have P4 := Lib.hid (show M4.p = p ∧ M4.er = c from ⟨hp4.trans EP1.out.1, her4⟩)
  have TC := Lib.hid (show tg4 w3.heap.size = .no from (htg4 _ (H7.out (oM M3)).lt).trans (H7.out (oM M3)).tb)
  have NE := Lib.hid (show w9.heap.size ≠ w3.heap.size from by have := ((H7.out (oM M3)).grow g9).lt; omega)
  clear H7 K7 K7a XB g9 hp4 her4 hx4 htg4 r0 r1 r2 r3 r4 r5 r6 r7 Y2
  have e9 : (c, (0 : Int)).2 = 0 := rfl
  unfold AM.v
  rw [e9]
  clear e9
  go_wp2_with fail
  refine (sameM_any M3 M4 _ XB9.out.rd HC9.out.x.rd (P4.out.1.trans P3.out.1.symm) (P3.out.2.trans P4.out.2.symm) (by rw [P3.out.1]; exact HL.out) (by have := XB9.out.fc; have := XB9.out.fm; omega)).mono ?_
  rintro e w11 ⟨rfl, g11⟩
  have H11 := Lib.hid (H9.out.grow g11)
  have HC11 := Lib.hid (HC9.out.grow g11)
  have a4 := (cells36 ((g11.block _ (heap_lt K9.out) (by simp)).trans K9.out)).1.2.2.2.2.1
  have c4 := HC11.out.c.1.2.2.2.2.1
  rw [show M2.steps = a.steps from congrArg MM.steps P2.out.2] at a4
  rw [show M4.steps = (N : Int) from (congrArg MM.steps P4.out.2).trans CS.out] at c4
  clear s0 s1 s2 s3 s4 s5 s6 s7 t0 t1 t2 t3 t4 t5 t6 t7 u_4 H9 HC9 K9 XB9 P2 P3 g11
  generalize w3.heap.size = b3 at *
  generalize w9.heap.size = b9 at *
  generalize w5.heap.size = b5 at *
  have z1 : ¬ ((KN : Int) < (N : Int)) := by omega
  go_wp2_with fail
  have J0 := Lib.hid (show HM w w11 b3 M1 tg0 ∧ HM w w11 b9 M4 tg4 ∧ M1.p = p ∧ M1.er = itM 0 bm from ⟨H11.out, HC11.out, EP1.out.1, EP1.out.2⟩)
  rw [show decide (KN < N) = false from decide_eq_false (by omega)]
  clear H11 HC11 c4 a4 z1
  go_loopw [106] (fun i V => ∃ (j : Nat) (M : AM) (tg : Nat → Tag), j ≤ N ∧ i = .int .i64 j ∧ Hid (HM w V b3 M tg ∧ HM w V b9 M4 tg4 ∧ M.p = p ∧ M.er = itM j bm)) (fun i _ => N - (intOf i).toNat)
  case atStart => exact ⟨0, M1, tg0, Nat.zero_le _, rfl, J0⟩
  case round =>
    clear J0 EP1
    obtain ⟨j, M, tg, hj, rfl, HH⟩ := hrel
    obtain ⟨⟨p0, p1, p2, p3, p4, p5, p6, p7⟩, pf⟩ := HH.out.1.c
    by_cases hlt : j < N
    · have SJ := Lib.hid (fun V hx => STP.out j hlt M tg V hx HH.out.2.2.2)
      have sa := IS.out j hj
      have sb := IS.out (j + 1) (by omega)
      have SS := Lib.hid (show (itM j bm).steps = j ∧ (itM (j + 1) bm).steps = ((j + 1 : Nat) : Int) from ⟨sa, sb⟩)
      clear sa sb
      go_wp2_with fail
      refine (SJ.out _ HH.out.1.x).mono ?_
      rintro e w13 ⟨g13, M', tg', rfl, hp', her', hx', htg'⟩
      have e9 : (itM (j + 1) bm, (0 : Int)).2 = 0 := rfl
      have st1 : M.steps = j := (congrArg MM.steps HH.out.2.2.2).trans SS.out.1
      have st2 : M'.steps = ((j + 1 : Nat) : Int) := (congrArg MM.steps her').trans SS.out.2
      have cmpA : (M'.steps != IntKind.i64.wrap (M.steps + 1)) = false := by rw [st1, st2, IntWalk.i64_in _ ⟨by omega, by omega⟩]; simp
      have cmpB : (M'.steps == IntKind.i64.wrap (M.steps + 1)) = true := by rw [st1, st2, IntWalk.i64_in _ ⟨by omega, by omega⟩]; simp
      have cmpD : (M'.steps != M.steps + 1) = false := by rw [st1, st2]; simp
      have cmpE : (M'.steps == M.steps + 1) = true := by rw [st1, st2]; simp
      have wst : IntKind.i64.wrap (M.steps + 1) = M.steps + 1 := by rw [st1]; exact IntWalk.i64_in _ ⟨by omega, by omega⟩
      have g14 := g13.trans (World.grownBy_alloc w13 (oM M') none)
      have B3 := Lib.hid (HH.out.1.back g14 (hx'.grow (World.grownBy_alloc w13 (oM M') none)) htg')
      have B9 := Lib.hid ((HH.out.2.1.grow g14).put M' HH.out.1.hb NE.out TC.out)
      have q0 := fun o => ((HH.out.1.grow (g13.trans (World.grownBy_alloc w13 o none))).c).1.1
      have q1 := fun o => ((HH.out.1.grow (g13.trans (World.grownBy_alloc w13 o none))).c).1.2.1
      have q2 := fun o => ((HH.out.1.grow (g13.trans (World.grownBy_alloc w13 o none))).c).1.2.2.1
      have q3 := fun o => ((HH.out.1.grow (g13.trans (World.grownBy_alloc w13 o none))).c).1.2.2.2.1
      have q4 := fun o => ((HH.out.1.grow (g13.trans (World.grownBy_alloc w13 o none))).c).1.2.2.2.2.1
      have q5 := fun o => ((HH.out.1.grow (g13.trans (World.grownBy_alloc w13 o none))).c).1.2.2.2.2.2.1
      have q6 := fun o => ((HH.out.1.grow (g13.trans (World.grownBy_alloc w13 o none))).c).1.2.2.2.2.2.2.1
      have q7 := fun o => ((HH.out.1.grow (g13.trans (World.grownBy_alloc w13 o none))).c).1.2.2.2.2.2.2.2
      have qf := fun o => ((HH.out.1.grow (g13.trans (World.grownBy_alloc w13 o none))).c).2
      have JP := Lib.hid (show M'.p = p ∧ M'.er = itM (j + 1) bm from ⟨hp'.trans HH.out.2.2.1, her'⟩)
      clear p0 p1 p2 p3 p4 p5 p6 p7 pf st1 st2 g13 g14 hp' her' hx' htg' SJ SS HH
      unfold AM.v
      rw [e9]
      clear e9
      go_wp2_with fail
      exact ⟨⟨j + 1, M', tg', by omega, by simp, Lib.hid ⟨B3.out, B9.out, JP.out.1, JP.out.2⟩⟩, by simp [intOf]; omega⟩
    · obtain rfl : j = N := by omega
      obtain ⟨⟨v0, v1, v2, v3, v4, v5, v6, v7⟩, -⟩ := HH.out.2.1.c
      have SM := Lib.hid (sameM_any M M4 wr HH.out.1.x.rd HH.out.2.1.x.rd (P4.out.1.trans HH.out.2.2.1.symm) ((HH.out.2.2.2.trans CN.out.symm).trans P4.out.2.symm) (by rw [HH.out.2.2.1]; exact HL.out) (by have := HH.out.1.x.fc; have := HH.out.1.x.fm; omega))
      go_wp2_with (first | (go_at_call 17; refine SM.out.mono ?_; rintro e wa ⟨rfl, ga⟩; have GA := Lib.hid (HH.out.1.gr.trans ga); clear ga) | (go_at_call 14; refine (AW.out _).mono ?_; rintro e wb ⟨rfl, gb⟩; have GB := Lib.hid (GA.out.trans gb); clear gb))
      go_ret
      exact ⟨rfl, GB.out⟩
theorem law_pieces_any (p : Prg) (s x y : Int) (w : World) (hp : p.Rd w) (hl : LenP p) (hx : 0 ≤ x ∧ x ≤ 255) (hy : 0 ≤ y ∧ y ≤ 255) : Calls Tryd.prog 9 #[p.v, .int .u64 s, .int .u8 x, .int .u8 y] w fun e w' => e = .returned (.bool true) ∧ w.grownBy w' none := by
  by_cases h : Small p
  · by_cases hst : p.ss = [] ∨ errP p ≠ 0
    · exact law_pieces_none p s x y w hp hl h hst
    · obtain ⟨st, ss, hs⟩ : ∃ st ss, p.ss = st :: ss := by
        cases h : p.ss with
        | nil => exact absurd (.inl h) hst
        | cons a b => exact ⟨a, b, rfl⟩
      have he : errP p = 0 := Decidable.not_not.1 fun h => hst (.inr h)
      have hI : MI 1 (begM p.bs st.block s) := bAM_MI he hs hl.i s 0
      have a0 : 0 ≤ x.tmod 101 := Int.tmod_nonneg 101 hx.1
      have a1 : x.tmod 101 < 101 := Int.tmod_lt_of_pos x (by decide)
      have b0 : 0 ≤ y.tmod 101 := Int.tmod_nonneg 101 hy.1
      have b1 : y.tmod 101 < 101 := Int.tmod_lt_of_pos y (by decide)
      obtain ⟨k, hk⟩ : ∃ k : Nat, x.tmod 101 = k := ⟨(x.tmod 101).toNat, by omega⟩
      obtain ⟨n, hn⟩ : ∃ n : Nat, y.tmod 101 = n := ⟨(y.tmod 101).toNat, by omega⟩
      have hk1 : k ≤ 100 := by omega
      have hn1 : n ≤ 100 := by omega
      obtain ⟨a, c, e, g, N, r1, r2, r3, he1, hg1, hc1, hIa, hcN, hcs, hN, hit⟩ := pieces k n (begM p.bs st.block s) hI rfl rfl hk1 hn1
      have hNK : N ≤ k + n := by omega
      have hast : ∀ q : Int, a.steps = q → q ≤ 100 → a.steps ≤ 100000 := fun q h1 h2 => by omega
      rcases he1 with ⟨rfl, hea⟩ | ⟨rfl, hea, has⟩
      · rw [if_pos hea] at r3
        obtain ⟨rfl, rfl⟩ := Prod.mk.inj r3
        exact law_pieces_0_0 p s x y st ss a a k n (k + n) N w hp hl h hs he hx.1 hx.2 hy.1 hy.2 hk hn hk1 hn1 rfl r1 r2 (by rw [if_pos hea]) hIa (by omega) hcs hNK hcN hN hit
      · rcases hg1 with rfl | ⟨rfl, hcg⟩
        · exact law_pieces_27_0 p s x y st ss a c k n (k + n) N w hp hl h hs he hx.1 hx.2 hy.1 hy.2 hk hn hk1 hn1 rfl r1 r2 r3 hIa (by omega) has hcs hNK hcN hN hit
        · exact law_pieces_27_27 p s x y st ss a c k n (k + n) N w hp hl h hs he hx.1 hx.2 hy.1 hy.2 hk hn hk1 hn1 rfl r1 r2 r3 hIa (by omega) has (by omega) hcs hNK hcN hN hit
  · exact law_pieces_big p s x y w hp hl h
end Go.Proofs.YtdfllhmkgphcmaaDoor
