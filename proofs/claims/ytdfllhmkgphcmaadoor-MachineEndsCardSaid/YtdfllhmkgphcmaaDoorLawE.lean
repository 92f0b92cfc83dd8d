/- The law MachineEnds. -/
import Derived.Test.YtdfllhmkgphcmaaDoorLawC
import Derived.Test.YtdfllhmkgphcmaaDoorSmi
import Derived.Test.YtdfllhmkgphcmaaDoorLtM
import Derived.Test.YtdfllhmkgphcmaaDoorLtE
import Derived.Test.YtdfllhmkgphcmaaDoorLtS
import Derived.Deep.CutRange
import Derived.Deep.RegionHeld3
namespace Go.Proofs.YtdfllhmkgphcmaaDoor
open Go.RowKit

set_option maxRecDepth 100000 in
set_option maxHeartbeats 8000000 in
theorem law_ends_big (p : Prg) (s : Int) (w : World) (hp : p.Rd w) (hl : LenP p) (h : ¬ Small p) : Calls Tryd.prog 10 #[p.v, .int .u64 s] w fun e w' => e = .returned (.bool true) ∧ w.grownBy w' none := by
  have L0 := Lib.hid (LC.of p w)
  have AW := Lib.hid awake_any
  have GN := Lib.hid (fun V (h1 : LC p w V) => great_yes p V (hp.below (below_of h1.gr)) hl h)
  clear hp hl h
  unfold Prg.v at *
  go_enter Tryd.func10, Tryd.ntmps10
  go_wp2_with (first | (go_at_call 11; refine (GN.out _ L0.out).mono ?_; rintro e w1 ⟨rfl, g1⟩; have L1 := Lib.hid (L0.out.grow g1); clear g1) | (go_at_call 14; refine (AW.out _).mono ?_; rintro e w2 ⟨rfl, g2⟩; have G2 := Lib.hid (L1.out.gr.trans g2); clear g2))
  go_ret
  exact ⟨rfl, G2.out⟩
set_option maxRecDepth 100000 in
set_option maxHeartbeats 8000000 in
theorem law_ends_none (p : Prg) (s : Int) (w : World) (hp : p.Rd w) (hl : LenP p) (h : Small p) (hst : p.ss = [] ∨ errP p ≠ 0) : Calls Tryd.prog 10 #[p.v, .int .u64 s] w fun e w' => e = .returned (.bool true) ∧ w.grownBy w' none := by
  have L0 := Lib.hid (LC.of p w)
  have AW := Lib.hid awake_any
  have GN := Lib.hid (fun V (h1 : LC p w V) => great_not p V (hp.below (below_of h1.gr)) hl h)
  have SN := Lib.hid (fun V (h1 : LC p w V) => begin_none_ p s V (hp.below (below_of h1.gr)) hl hst)
  clear hp hl h hst
  unfold Prg.v at *
  go_enter Tryd.func10, Tryd.ntmps10
  go_wp2_with (first | (go_at_call 11; refine (GN.out _ L0.out).mono ?_; rintro e w1 ⟨rfl, g1⟩; have L1 := Lib.hid (L0.out.grow g1); obtain ⟨c0, c1⟩ := L1.out.c; clear g1) | (go_at_call 18; refine (SN.out _ L1.out).mono ?_; rintro e w3 ⟨rfl, g3⟩; have L3 := Lib.hid (fun o => (L1.out.grow g3).grow (World.grownBy_alloc w3 o none)); clear g3) | (go_at_call 14; refine (AW.out _).mono ?_; rintro e w2 ⟨rfl, g2⟩; have G2 := Lib.hid ((L3.out _).gr.trans g2); clear g2))
  go_ret
  exact ⟨rfl, G2.out⟩
set_option maxRecDepth 100000 in
set_option maxHeartbeats 8000000 in
theorem law_ends_run (p : Prg) (s : Int) (st : Stt) (ss : List Stt) (mm : MM) (w : World) (hp : p.Rd w) (hl : LenP p) (h : Small p) (hs : p.ss = st :: ss) (he : errP p = 0) (hrun : runE 200 (begM p.bs st.block s) = (mm, 27)) (hI : MI 401 mm) (hd : mm.done = false) (h0 : mm.err = 0) : Calls Tryd.prog 10 #[p.v, .int .u64 s] w fun e w' => e = .returned (.bool true) ∧ w.grownBy w' none := by
  have L0 := Lib.hid (LC.of p w)
  have AW := Lib.hid awake_any
  have HPW := Lib.hid hp
  have HL := Lib.hid hl
  have HP := Lib.hid (fun V (h1 : LC p w V) => hp.below (below_of h1.gr))
  have GN := Lib.hid (fun V (h1 : LC p w V) => great_not p V (hp.below (below_of h1.gr)) hl h)
  have ST := Lib.hid (fun V (h1 : p.Rd V) => begin_at_ p s st ss V h1 hl hs he)
  have X1 := Lib.hid (fun (B : Nat) (V : World) (hx : (bAM p st.block s B).RdX w (tgB B) V) => (by rw [← hrun]; exact begin_run_ p s st ss w V B 200 hl hs he (by omega) hx : Calls Tryd.prog 19 #[(bAM p st.block s B).v, iv 200] V (RunP w (tgB B) (bAM p st.block s B) V (mm, 27))))
  have HI := Lib.hid hI
  have HD := Lib.hid hd
  have H0 := Lib.hid h0
  clear hd h0
  clear hp hl h hs he hrun hI
  unfold Prg.v at *
  go_enter Tryd.func10, Tryd.ntmps10
  go_wp2_with (first | (go_at_call 11; refine (GN.out _ L0.out).mono ?_; rintro e w1 ⟨rfl, g1⟩; have L1 := Lib.hid (L0.out.grow g1); obtain ⟨c0, c1⟩ := L1.out.c; clear g1))
  refine (ST.out w1 (HP.out _ L1.out)).mono ?_
  rintro e w3 ⟨g3, B1, rfl, hB1, kB1⟩
  have l3 := L1.out.grow g3
  have h1 := HM.start (p := p) (blk := st.block) (seed := s) HPW.out l3.gr (Nat.le_trans L1.out.gr.size hB1) kB1
  have x1 := X1.out B1
  have ep1 : (bAM p st.block s B1).p = p := rfl
  obtain ⟨M1, hM1⟩ : ∃ M1, M1 = bAM p st.block s B1 := ⟨_, rfl⟩
  rw [← hM1] at x1 h1 ep1 ⊢
  have EP1 := Lib.hid ep1
  have Y1 := Lib.hid x1
  have H1 := Lib.hid h1
  clear L1 g3 hB1 kB1 h1 l3 hM1 X1 x1 ep1 c0 c1 ST GN HP L0
  unfold AM.v
  go_wp2_with fail
  refine (Y1.out _ H1.out.x).mono ?_
  rintro e w7 ⟨g7, M2, tg1, rfl, hp2, her2, hx2, htg2⟩
  have h1b := H1.out.back g7 hx2 htg2
  obtain ⟨⟨p0, p1, p2, p3, p4, p5, p6, p7⟩, pf⟩ := (H1.out.grow g7).c
  have P2 := Lib.hid (show M2.p = p ∧ M2.er = mm from ⟨hp2.trans EP1.out, her2⟩)
  have H1b := Lib.hid h1b
  clear H1 Y1 g7 hp2 her2 hx2 htg2 h1b EP1
  have e9 : (mm, (27 : Int)).2 = 27 := rfl
  unfold AM.v
  rw [e9]
  clear e9
  go_upto_region 7 with fail
  generalize w3.heap.size = b3 at *
  obtain ⟨V, hV⟩ : ∃ V, V = setM w7 b3 M2 := ⟨_, rfl⟩
  rw [← hV] at H1b
  unfold setM set36 at hV
  rw [← hV]
  clear hV p0 p1 p2 p3 p4 p5 p6 p7 pf
  obtain ⟨⟨m0, m1, m2, m3, m4, m5, m6, m7⟩, mf⟩ := H1b.out.c
  have d2 : M2.done = false := (congrArg MM.done P2.out.2).trans HD.out
  have d3 : M2.err = 0 := (congrArg MM.err P2.out.2).trans H0.out
  have RS := Lib.hid (result_no M2 V d2 d3)
  unfold AM.v at RS
  rw [d2, d3] at RS
  rw [d2] at m6
  rw [d3] at m7
  clear d2 d3
  go_wp2_with fail
  refine RS.out.mono ?_
  rintro e w9 ⟨rfl, g9⟩
  have q6 := fun o => ((H1b.out.grow (g9.trans (World.grownBy_alloc w9 o none))).c).1.2.2.2.2.2.2.1
  have q7 := fun o => ((H1b.out.grow (g9.trans (World.grownBy_alloc w9 o none))).c).1.2.2.2.2.2.2.2
  have G9 := Lib.hid (fun o => (H1b.out.grow (g9.trans (World.grownBy_alloc w9 o none))).gr)
  rw [show M2.done = false from (congrArg MM.done P2.out.2).trans HD.out] at q6
  rw [show M2.err = 0 from (congrArg MM.err P2.out.2).trans H0.out] at q7
  clear g9 m0 m1 m2 m3 m4 m5 m6 m7 mf RS
  go_wp2_with (first | (go_at_call 14; refine (AW.out _).mono ?_; rintro e w2 ⟨rfl, g2⟩; have G2 := Lib.hid ((G9.out _).trans g2); clear g2))
  go_ret
  exact ⟨rfl, G2.out⟩
set_option maxRecDepth 100000 in
set_option maxHeartbeats 8000000 in
theorem law_ends_err (p : Prg) (s : Int) (st : Stt) (ss : List Stt) (mm : MM) (w : World) (hp : p.Rd w) (hl : LenP p) (h : Small p) (hs : p.ss = st :: ss) (he : errP p = 0) (hrun : runE 200 (begM p.bs st.block s) = (mm, 0)) (hI : MI 401 mm) (c : Int) (hc : c = 26 ∨ c = 5) (hd : mm.done = false) (h0 : mm.err = c) : Calls Tryd.prog 10 #[p.v, .int .u64 s] w fun e w' => e = .returned (.bool true) ∧ w.grownBy w' none := by
  have L0 := Lib.hid (LC.of p w)
  have AW := Lib.hid awake_any
  have HPW := Lib.hid hp
  have HL := Lib.hid hl
  have HP := Lib.hid (fun V (h1 : LC p w V) => hp.below (below_of h1.gr))
  have GN := Lib.hid (fun V (h1 : LC p w V) => great_not p V (hp.below (below_of h1.gr)) hl h)
  have ST := Lib.hid (fun V (h1 : p.Rd V) => begin_at_ p s st ss V h1 hl hs he)
  have X1 := Lib.hid (fun (B : Nat) (V : World) (hx : (bAM p st.block s B).RdX w (tgB B) V) => (by rw [← hrun]; exact begin_run_ p s st ss w V B 200 hl hs he (by omega) hx : Calls Tryd.prog 19 #[(bAM p st.block s B).v, iv 200] V (RunP w (tgB B) (bAM p st.block s B) V (mm, 0))))
  have HI := Lib.hid hI
  have HD := Lib.hid hd
  have H0 := Lib.hid h0
  have EN0 := Lib.hid (show ended mm = true by unfold ended; rw [hd, h0]; rcases hc with rfl | rfl <;> rfl)
  clear hd h0
  clear hp hl h hs he hrun hI
  unfold Prg.v at *
  go_enter Tryd.func10, Tryd.ntmps10
  go_wp2_with (first | (go_at_call 11; refine (GN.out _ L0.out).mono ?_; rintro e w1 ⟨rfl, g1⟩; have L1 := Lib.hid (L0.out.grow g1); obtain ⟨c0, c1⟩ := L1.out.c; clear g1))
  refine (ST.out w1 (HP.out _ L1.out)).mono ?_
  rintro e w3 ⟨g3, B1, rfl, hB1, kB1⟩
  have l3 := L1.out.grow g3
  have h1 := HM.start (p := p) (blk := st.block) (seed := s) HPW.out l3.gr (Nat.le_trans L1.out.gr.size hB1) kB1
  have x1 := X1.out B1
  have ep1 : (bAM p st.block s B1).p = p := rfl
  obtain ⟨M1, hM1⟩ : ∃ M1, M1 = bAM p st.block s B1 := ⟨_, rfl⟩
  rw [← hM1] at x1 h1 ep1 ⊢
  have EP1 := Lib.hid ep1
  have Y1 := Lib.hid x1
  have H1 := Lib.hid h1
  clear L1 g3 hB1 kB1 h1 l3 hM1 X1 x1 ep1 c0 c1 ST GN HP L0
  unfold AM.v
  go_wp2_with fail
  refine (Y1.out _ H1.out.x).mono ?_
  rintro e w7 ⟨g7, M2, tg1, rfl, hp2, her2, hx2, htg2⟩
  have h1b := H1.out.back g7 hx2 htg2
  obtain ⟨⟨p0, p1, p2, p3, p4, p5, p6, p7⟩, pf⟩ := (H1.out.grow g7).c
  have P2 := Lib.hid (show M2.p = p ∧ M2.er = mm from ⟨hp2.trans EP1.out, her2⟩)
  have H1b := Lib.hid h1b
  clear H1 Y1 g7 hp2 her2 hx2 htg2 h1b EP1
  have e9 : (mm, (0 : Int)).2 = 0 := rfl
  unfold AM.v
  rw [e9]
  clear e9
  go_upto_region 7 with fail
  generalize w3.heap.size = b3 at *
  obtain ⟨V, hV⟩ : ∃ V, V = setM w7 b3 M2 := ⟨_, rfl⟩
  rw [← hV] at H1b
  unfold setM set36 at hV
  rw [← hV]
  clear hV p0 p1 p2 p3 p4 p5 p6 p7 pf
  obtain ⟨⟨m0, m1, m2, m3, m4, m5, m6, m7⟩, mf⟩ := H1b.out.c
  have EN : Hid (ended M2.er = true) := Lib.hid (by rw [P2.out.2]; exact EN0.out)
  have d2 : M2.done = false := (congrArg MM.done P2.out.2).trans HD.out
  have d3 : M2.err = c := (congrArg MM.err P2.out.2).trans H0.out
  have rs := result_err M2 V d2 (by rw [d3]; rcases hc with rfl | rfl <;> rfl)
  have RS : Hid (Calls Tryd.prog 23 #[M2.v] V fun e w' => e = .returned (.tuple #[zV, iv c]) ∧ V.grownBy w' none) := Lib.hid (by rw [d3] at rs; exact rs)
  clear rs d2 d3
  go_wp2_with fail
  refine RS.out.mono ?_
  rintro e w9 ⟨rfl, g9⟩
  have q0 := fun o => ((H1b.out.grow (g9.trans (World.grownBy_alloc w9 o none))).c).1.1
  have q1 := fun o => ((H1b.out.grow (g9.trans (World.grownBy_alloc w9 o none))).c).1.2.1
  have q2 := fun o => ((H1b.out.grow (g9.trans (World.grownBy_alloc w9 o none))).c).1.2.2.1
  have q3 := fun o => ((H1b.out.grow (g9.trans (World.grownBy_alloc w9 o none))).c).1.2.2.2.1
  have q4 := fun o => ((H1b.out.grow (g9.trans (World.grownBy_alloc w9 o none))).c).1.2.2.2.2.1
  have q5 := fun o => ((H1b.out.grow (g9.trans (World.grownBy_alloc w9 o none))).c).1.2.2.2.2.2.1
  have q6 := fun o => ((H1b.out.grow (g9.trans (World.grownBy_alloc w9 o none))).c).1.2.2.2.2.2.2.1
  have q7 := fun o => ((H1b.out.grow (g9.trans (World.grownBy_alloc w9 o none))).c).1.2.2.2.2.2.2.2
  have H9 := Lib.hid (fun o => H1b.out.grow (g9.trans (World.grownBy_alloc w9 o none)))
  clear m0 m1 m2 m3 m4 m5 m6 m7 mf RS H1b
  go_wp2_with fail
  refine (run_end w tg1 M2 _ 5 (H9.out _).x EN.out (by omega)).mono ?_
  rintro e w11 ⟨g11, M3, tg3, rfl, hp3, her3, hx3, -⟩
  have r0 := fun o => (((H9.out _).grow (g11.trans (World.grownBy_alloc w11 o none))).c).1.1
  have r1 := fun o => (((H9.out _).grow (g11.trans (World.grownBy_alloc w11 o none))).c).1.2.1
  have r2 := fun o => (((H9.out _).grow (g11.trans (World.grownBy_alloc w11 o none))).c).1.2.2.1
  have r3 := fun o => (((H9.out _).grow (g11.trans (World.grownBy_alloc w11 o none))).c).1.2.2.2.1
  have r4 := fun o => (((H9.out _).grow (g11.trans (World.grownBy_alloc w11 o none))).c).1.2.2.2.2.1
  have r5 := fun o => (((H9.out _).grow (g11.trans (World.grownBy_alloc w11 o none))).c).1.2.2.2.2.2.1
  have r6 := fun o => (((H9.out _).grow (g11.trans (World.grownBy_alloc w11 o none))).c).1.2.2.2.2.2.2.1
  have r7 := fun o => (((H9.out _).grow (g11.trans (World.grownBy_alloc w11 o none))).c).1.2.2.2.2.2.2.2
  have H11 := Lib.hid (fun o => (H9.out _).grow (g11.trans (World.grownBy_alloc w11 o none)))
  have P3 := Lib.hid (show M3.p = M2.p ∧ M2.er = M3.er from ⟨hp3, her3.symm⟩)
  have N11 := Lib.hid (hx3.grow (World.grownBy_alloc w11 (oM M3) none))
  have K11 := Lib.hid (al_new w11 (oM M3))
  clear q0 q1 q2 q3 q4 q5 q6 q7 hp3 her3 hx3 g9 g11 H9
  unfold AM.v
  go_wp2_with fail
  refine (stepS_end M2 _ EN.out).mono ?_
  rintro e w13 ⟨rfl, g13⟩
  have s0 := fun o => (((H11.out _).grow (g13.trans (World.grownBy_alloc w13 o none))).c).1.1
  have s1 := fun o => (((H11.out _).grow (g13.trans (World.grownBy_alloc w13 o none))).c).1.2.1
  have s2 := fun o => (((H11.out _).grow (g13.trans (World.grownBy_alloc w13 o none))).c).1.2.2.1
  have s3 := fun o => (((H11.out _).grow (g13.trans (World.grownBy_alloc w13 o none))).c).1.2.2.2.1
  have s4 := fun o => (((H11.out _).grow (g13.trans (World.grownBy_alloc w13 o none))).c).1.2.2.2.2.1
  have s5 := fun o => (((H11.out _).grow (g13.trans (World.grownBy_alloc w13 o none))).c).1.2.2.2.2.2.1
  have s6 := fun o => (((H11.out _).grow (g13.trans (World.grownBy_alloc w13 o none))).c).1.2.2.2.2.2.2.1
  have s7 := fun o => (((H11.out _).grow (g13.trans (World.grownBy_alloc w13 o none))).c).1.2.2.2.2.2.2.2
  have t0 := fun o => ((cells36 ((((g13.trans (World.grownBy_alloc w13 o none)).block _ (heap_lt K11.out) (by simp))).trans K11.out))).1.1
  have t1 := fun o => ((cells36 ((((g13.trans (World.grownBy_alloc w13 o none)).block _ (heap_lt K11.out) (by simp))).trans K11.out))).1.2.1
  have t2 := fun o => ((cells36 ((((g13.trans (World.grownBy_alloc w13 o none)).block _ (heap_lt K11.out) (by simp))).trans K11.out))).1.2.2.1
  have t3 := fun o => ((cells36 ((((g13.trans (World.grownBy_alloc w13 o none)).block _ (heap_lt K11.out) (by simp))).trans K11.out))).1.2.2.2.1
  have t4 := fun o => ((cells36 ((((g13.trans (World.grownBy_alloc w13 o none)).block _ (heap_lt K11.out) (by simp))).trans K11.out))).1.2.2.2.2.1
  have t5 := fun o => ((cells36 ((((g13.trans (World.grownBy_alloc w13 o none)).block _ (heap_lt K11.out) (by simp))).trans K11.out))).1.2.2.2.2.2.1
  have t6 := fun o => ((cells36 ((((g13.trans (World.grownBy_alloc w13 o none)).block _ (heap_lt K11.out) (by simp))).trans K11.out))).1.2.2.2.2.2.2.1
  have t7 := fun o => ((cells36 ((((g13.trans (World.grownBy_alloc w13 o none)).block _ (heap_lt K11.out) (by simp))).trans K11.out))).1.2.2.2.2.2.2.2
  have H13 := Lib.hid (fun o => (H11.out (oM M3)).grow (g13.trans (World.grownBy_alloc w13 o none)))
  have N13 := Lib.hid (fun o => (N11.out.grow g13).grow (World.grownBy_alloc w13 o none))
  clear r0 r1 r2 r3 r4 r5 r6 r7 g13 H11 N11 K11
  go_wp2_with fail
  refine (sameM_any M2 M3 _ (H13.out _).x.rd (N13.out _).rd P3.out.1 P3.out.2 (by rw [P2.out.1]; exact HL.out) (by have := (H13.out (oM M3)).x.fc; have := (H13.out (oM M3)).x.fm; omega)).mono ?_
  rintro e w15 ⟨rfl, g15⟩
  have H15 := Lib.hid ((H13.out _).grow g15)
  clear s0 s1 s2 s3 s4 s5 s6 s7 t0 t1 t2 t3 t4 t5 t6 t7 g15 H13 N13
  obtain ⟨⟨m0, m1, m2, m3, m4, m5, m6, m7⟩, mf⟩ := H15.out.c
  rw [show M2.done = false from (congrArg MM.done P2.out.2).trans HD.out] at m6
  rw [show M2.err = c from (congrArg MM.err P2.out.2).trans H0.out] at m7
  clear EN EN0
  rcases hc with rfl | rfl
  all_goals
    go_wp2_with (first | (go_at_call 14; refine (AW.out _).mono ?_; rintro e w2 ⟨rfl, g2⟩; have G2 := Lib.hid (H15.out.gr.trans g2); clear g2))
    go_ret
    exact ⟨rfl, G2.out⟩
/-- What the last line of the law reads. -/
structure EB (w V : World) (b3 b8 : Nat) (q1 : Addr) (M : AM) (x : AV) (tg : Nat → Tag) : Prop where
  h : HM w V b3 M tg
  k8 : V.heap[b8]? = some (.cells #[iv x.kind, iv x.int, .slice x.A x.list.length x.c, iv x.block, eS, eS, nilS, nilS] 54 (0, 0))
  hq : q1.block < V.heap.size
  lx : LRd V.heap.size noT V x.A x.c x.list
theorem EB.grow {w V V' : World} {b3 b8 : Nat} {q1 : Addr} {M : AM} {x : AV} {tg : Nat → Tag} (h : EB w V b3 b8 q1 M x tg) (g : V.grownBy V' none) : EB w V' b3 b8 q1 M x tg :=
  ⟨h.h.grow g, (g.block _ (heap_lt h.k8) (by simp)).trans h.k8, Nat.lt_of_lt_of_le h.hq g.size, h.lx.up g⟩
theorem mi_done {k : Nat} {m : MM} (h : MI k m) (hd : m.done = true) : m.F = [] ∧ ∃ T v, m.S = T ++ [v] := by
  have h1 := h.fd
  rw [hd] at h1
  have h2 : m.F = [] := List.isEmpty_iff.1 h1.symm
  refine ⟨h2, ?_⟩
  rcases snoc_cases m.S with h3 | ⟨T, v, h3⟩
  · exact absurd h3 (h.ds h2)
  · exact ⟨T, v, h3⟩
set_option maxRecDepth 100000 in
set_option maxHeartbeats 8000000 in
theorem law_ends_done (p : Prg) (s : Int) (st : Stt) (ss : List Stt) (mm : MM) (w : World) (hp : p.Rd w) (hl : LenP p) (h : Small p) (hs : p.ss = st :: ss) (he : errP p = 0) (hrun : runE 200 (begM p.bs st.block s) = (mm, 0)) (hI : MI 401 mm) (hd : mm.done = true) (h0 : mm.err = 0) : Calls Tryd.prog 10 #[p.v, .int .u64 s] w fun e w' => e = .returned (.bool true) ∧ w.grownBy w' none := by
  have L0 := Lib.hid (LC.of p w)
  have AW := Lib.hid awake_any
  have HPW := Lib.hid hp
  have HL := Lib.hid hl
  have HP := Lib.hid (fun V (h1 : LC p w V) => hp.below (below_of h1.gr))
  have GN := Lib.hid (fun V (h1 : LC p w V) => great_not p V (hp.below (below_of h1.gr)) hl h)
  have ST := Lib.hid (fun V (h1 : p.Rd V) => begin_at_ p s st ss V h1 hl hs he)
  have X1 := Lib.hid (fun (B : Nat) (V : World) (hx : (bAM p st.block s B).RdX w (tgB B) V) => (by rw [← hrun]; exact begin_run_ p s st ss w V B 200 hl hs he (by omega) hx : Calls Tryd.prog 19 #[(bAM p st.block s B).v, iv 200] V (RunP w (tgB B) (bAM p st.block s B) V (mm, 0))))
  have HI := Lib.hid hI
  have HD := Lib.hid hd
  have H0 := Lib.hid h0
  have EN0 := Lib.hid (show ended mm = true by unfold ended; rw [hd]; rfl)
  obtain ⟨f0, T, v, hT⟩ := mi_done hI hd
  have F0 := Lib.hid f0
  have HT := Lib.hid hT
  clear hd h0 f0 hT
  clear hp hl h hs he hrun hI
  unfold Prg.v at *
  go_enter Tryd.func10, Tryd.ntmps10
  go_wp2_with (first | (go_at_call 11; refine (GN.out _ L0.out).mono ?_; rintro e w1 ⟨rfl, g1⟩; have L1 := Lib.hid (L0.out.grow g1); obtain ⟨c0, c1⟩ := L1.out.c; clear g1))
  refine (ST.out w1 (HP.out _ L1.out)).mono ?_
  rintro e w3 ⟨g3, B1, rfl, hB1, kB1⟩
  have l3 := L1.out.grow g3
  have h1 := HM.start (p := p) (blk := st.block) (seed := s) HPW.out l3.gr (Nat.le_trans L1.out.gr.size hB1) kB1
  have x1 := X1.out B1
  have ep1 : (bAM p st.block s B1).p = p := rfl
  obtain ⟨M1, hM1⟩ : ∃ M1, M1 = bAM p st.block s B1 := ⟨_, rfl⟩
  rw [← hM1] at x1 h1 ep1 ⊢
  have EP1 := Lib.hid ep1
  have Y1 := Lib.hid x1
  have H1 := Lib.hid h1
  clear L1 g3 hB1 kB1 h1 l3 hM1 X1 x1 ep1 c0 c1 ST GN HP L0
  unfold AM.v
  go_wp2_with fail
  refine (Y1.out _ H1.out.x).mono ?_
  rintro e w7 ⟨g7, M2, tg1, rfl, hp2, her2, hx2, htg2⟩
  have h1b := H1.out.back g7 hx2 htg2
  obtain ⟨⟨p0, p1, p2, p3, p4, p5, p6, p7⟩, pf⟩ := (H1.out.grow g7).c
  have P2 := Lib.hid (show M2.p = p ∧ M2.er = mm from ⟨hp2.trans EP1.out, her2⟩)
  have H1b := Lib.hid h1b
  clear H1 Y1 g7 hp2 her2 hx2 htg2 h1b EP1
  have e9 : (mm, (0 : Int)).2 = 0 := rfl
  unfold AM.v
  rw [e9]
  clear e9
  go_upto_region 7 with fail
  generalize w3.heap.size = b3 at *
  obtain ⟨V, hV⟩ : ∃ V, V = setM w7 b3 M2 := ⟨_, rfl⟩
  rw [← hV] at H1b
  unfold setM set36 at hV
  rw [← hV]
  clear hV p0 p1 p2 p3 p4 p5 p6 p7 pf
  obtain ⟨⟨m0, m1, m2, m3, m4, m5, m6, m7⟩, mf⟩ := H1b.out.c
  have EN : Hid (ended M2.er = true) := Lib.hid (by rw [P2.out.2]; exact EN0.out)
  obtain ⟨S', x, hS, -⟩ := ers_snoc (show ers M2.S = T ++ [v] from (congrArg MM.S P2.out.2).trans HT.out)
  have HS := Lib.hid hS
  have NS : Hid (M2.S.length ≤ 1000000) := Lib.hid (by
    have h1 := HI.out.ok.1
    have h2 : ers M2.S = mm.S := congrArg MM.S P2.out.2
    have h3 : M2.S.length = mm.S.length := by rw [← h2, ers_length]
    omega)
  have RS := Lib.hid (result_done M2 V S' x H1b.out.x.rd ((congrArg MM.done P2.out.2).trans HD.out) hS NS.out)
  clear hS HT
  go_wp2_with fail
  refine RS.out.mono ?_
  rintro e w9 ⟨rfl, g9⟩
  unfold AV.v
  have q0 := fun o => ((H1b.out.grow (g9.trans (World.grownBy_alloc w9 o none))).c).1.1
  have q1 := fun o => ((H1b.out.grow (g9.trans (World.grownBy_alloc w9 o none))).c).1.2.1
  have q2 := fun o => ((H1b.out.grow (g9.trans (World.grownBy_alloc w9 o none))).c).1.2.2.1
  have q3 := fun o => ((H1b.out.grow (g9.trans (World.grownBy_alloc w9 o none))).c).1.2.2.2.1
  have q4 := fun o => ((H1b.out.grow (g9.trans (World.grownBy_alloc w9 o none))).c).1.2.2.2.2.1
  have q5 := fun o => ((H1b.out.grow (g9.trans (World.grownBy_alloc w9 o none))).c).1.2.2.2.2.2.1
  have q6 := fun o => ((H1b.out.grow (g9.trans (World.grownBy_alloc w9 o none))).c).1.2.2.2.2.2.2.1
  have q7 := fun o => ((H1b.out.grow (g9.trans (World.grownBy_alloc w9 o none))).c).1.2.2.2.2.2.2.2
  have H9 := Lib.hid (fun o => H1b.out.grow (g9.trans (World.grownBy_alloc w9 o none)))
  clear m0 m1 m2 m3 m4 m5 m6 m7 mf RS H1b
  go_wp2_with fail
  refine (run_end w tg1 M2 _ 5 (H9.out _).x EN.out (by omega)).mono ?_
  rintro e w11 ⟨g11, M3, tg3, rfl, hp3, her3, hx3, -⟩
  have r0 := fun o => (((H9.out _).grow (g11.trans (World.grownBy_alloc w11 o none))).c).1.1
  have r1 := fun o => (((H9.out _).grow (g11.trans (World.grownBy_alloc w11 o none))).c).1.2.1
  have r2 := fun o => (((H9.out _).grow (g11.trans (World.grownBy_alloc w11 o none))).c).1.2.2.1
  have r3 := fun o => (((H9.out _).grow (g11.trans (World.grownBy_alloc w11 o none))).c).1.2.2.2.1
  have r4 := fun o => (((H9.out _).grow (g11.trans (World.grownBy_alloc w11 o none))).c).1.2.2.2.2.1
  have r5 := fun o => (((H9.out _).grow (g11.trans (World.grownBy_alloc w11 o none))).c).1.2.2.2.2.2.1
  have r6 := fun o => (((H9.out _).grow (g11.trans (World.grownBy_alloc w11 o none))).c).1.2.2.2.2.2.2.1
  have r7 := fun o => (((H9.out _).grow (g11.trans (World.grownBy_alloc w11 o none))).c).1.2.2.2.2.2.2.2
  have H11 := Lib.hid (fun o => (H9.out _).grow (g11.trans (World.grownBy_alloc w11 o none)))
  have P3 := Lib.hid (show M3.p = M2.p ∧ M2.er = M3.er from ⟨hp3, her3.symm⟩)
  have N11 := Lib.hid (hx3.grow (World.grownBy_alloc w11 (oM M3) none))
  have K11 := Lib.hid (al_new w11 (oM M3))
  have K8 := Lib.hid (fun o => ((g11.trans (World.grownBy_alloc w11 o none)).block w9.heap.size (by simp) (by simp)).trans (al_new w9 (.cells #[iv x.kind, iv x.int, .slice x.A x.list.length x.c, iv x.block, eS, eS, nilS, nilS] 54)))
  clear q0 q1 q2 q3 q4 q5 q6 q7 hp3 her3 hx3 g9 g11 H9
  unfold AM.v
  go_wp2_with fail
  refine (stepS_end M2 _ EN.out).mono ?_
  rintro e w13 ⟨rfl, g13⟩
  have s0 := fun o => (((H11.out _).grow (g13.trans (World.grownBy_alloc w13 o none))).c).1.1
  have s1 := fun o => (((H11.out _).grow (g13.trans (World.grownBy_alloc w13 o none))).c).1.2.1
  have s2 := fun o => (((H11.out _).grow (g13.trans (World.grownBy_alloc w13 o none))).c).1.2.2.1
  have s3 := fun o => (((H11.out _).grow (g13.trans (World.grownBy_alloc w13 o none))).c).1.2.2.2.1
  have s4 := fun o => (((H11.out _).grow (g13.trans (World.grownBy_alloc w13 o none))).c).1.2.2.2.2.1
  have s5 := fun o => (((H11.out _).grow (g13.trans (World.grownBy_alloc w13 o none))).c).1.2.2.2.2.2.1
  have s6 := fun o => (((H11.out _).grow (g13.trans (World.grownBy_alloc w13 o none))).c).1.2.2.2.2.2.2.1
  have s7 := fun o => (((H11.out _).grow (g13.trans (World.grownBy_alloc w13 o none))).c).1.2.2.2.2.2.2.2
  have t0 := fun o => ((cells36 ((((g13.trans (World.grownBy_alloc w13 o none)).block _ (heap_lt K11.out) (by simp))).trans K11.out))).1.1
  have t1 := fun o => ((cells36 ((((g13.trans (World.grownBy_alloc w13 o none)).block _ (heap_lt K11.out) (by simp))).trans K11.out))).1.2.1
  have t2 := fun o => ((cells36 ((((g13.trans (World.grownBy_alloc w13 o none)).block _ (heap_lt K11.out) (by simp))).trans K11.out))).1.2.2.1
  have t3 := fun o => ((cells36 ((((g13.trans (World.grownBy_alloc w13 o none)).block _ (heap_lt K11.out) (by simp))).trans K11.out))).1.2.2.2.1
  have t4 := fun o => ((cells36 ((((g13.trans (World.grownBy_alloc w13 o none)).block _ (heap_lt K11.out) (by simp))).trans K11.out))).1.2.2.2.2.1
  have t5 := fun o => ((cells36 ((((g13.trans (World.grownBy_alloc w13 o none)).block _ (heap_lt K11.out) (by simp))).trans K11.out))).1.2.2.2.2.2.1
  have t6 := fun o => ((cells36 ((((g13.trans (World.grownBy_alloc w13 o none)).block _ (heap_lt K11.out) (by simp))).trans K11.out))).1.2.2.2.2.2.2.1
  have t7 := fun o => ((cells36 ((((g13.trans (World.grownBy_alloc w13 o none)).block _ (heap_lt K11.out) (by simp))).trans K11.out))).1.2.2.2.2.2.2.2
  have H13 := Lib.hid (fun o => (H11.out (oM M3)).grow (g13.trans (World.grownBy_alloc w13 o none)))
  have N13 := Lib.hid (fun o => (N11.out.grow g13).grow (World.grownBy_alloc w13 o none))
  have K13 := Lib.hid (fun o => ((g13.trans (World.grownBy_alloc w13 o none)).block _ (heap_lt (K8.out (oM M3))) (by simp)).trans (K8.out (oM M3)))
  clear r0 r1 r2 r3 r4 r5 r6 r7 g13 H11 N11 K11
  go_wp2_with fail
  refine (sameM_any M2 M3 _ (H13.out _).x.rd (N13.out _).rd P3.out.1 P3.out.2 (by rw [P2.out.1]; exact HL.out) (by have := (H13.out (oM M3)).x.fc; have := (H13.out (oM M3)).x.fm; omega)).mono ?_
  rintro e w15 ⟨rfl, g15⟩
  have H15 := Lib.hid ((H13.out _).grow g15)
  have K15 := Lib.hid ((g15.block _ (heap_lt (K13.out _)) (by simp)).trans (K13.out _))
  clear K13 K8
  generalize w9.heap.size = b8 at *
  clear s0 s1 s2 s3 s4 s5 s6 s7 t0 t1 t2 t3 t4 t5 t6 t7 g15 H13 N13
  obtain ⟨⟨m0, m1, m2, m3, m4, m5, m6, m7⟩, mf⟩ := H15.out.c
  have hF0 : M2.F.length = 0 := by
    have h1 := congrArg MM.F P2.out.2
    have h2 : M2.F.map Fr.er = [] := h1.trans F0.out
    have h3 := congrArg List.length h2
    rwa [List.length_map] at h3
  have hl : M2.S.length = S'.length + 1 := by rw [HS.out]; simp
  have hx : M2.S[S'.length]? = some x := by rw [HS.out]; simp
  have hn6 : M2.S.length ≤ 1000000 := NS.out
  have hR := H15.out.x.rd
  obtain ⟨q, q1, hA, hq, hqb, c0, c1, c2, c3, c4, c5, c6, c7⟩ := hR.s.at8 hx
  have hlx := hR.s.hr x (by rw [HS.out]; simp)
  rw [show M2.done = true from (congrArg MM.done P2.out.2).trans HD.out] at m6
  rw [show M2.err = 0 from (congrArg MM.err P2.out.2).trans H0.out] at m7
  rw [hF0] at m3
  rw [hA, hl] at m2
  rw [hl] at hn6
  generalize S'.length = N at *
  have e1 : IntKind.i64.wrap ((N : Int) + 1 - 1) = (N : Int) := by rw [IntWalk.i64_in _ (by omega)]; omega
  have e7 : IntKind.i64.wrap (N : Int) = (N : Int) := IntWalk.i64_in _ ⟨by omega, by omega⟩
  have e8 : IntKind.i64.wrap (((N + 1 : Nat) : Int) - 1) = (N : Int) := by rw [IntWalk.i64_in _ ⟨by omega, by omega⟩]; omega
  have e9 : (N : Int) < ((N + 1 : Nat) : Int) := by omega
  have e2 : ((N : Int)).toNat = N := by omega
  have e3 : 0 ≤ (N : Int) := by omega
  have e4 : N < N + 1 := by omega
  have e5 : (N : Int) < (N : Int) + 1 := by omega
  have e6 : (0 : Int) < (N : Int) + 1 := by omega
  have eb : EB w w15 b3 b8 q1 M2 x tg1 := ⟨H15.out, K15.out, hqb, hlx⟩
  obtain ⟨⟨v0, v1, v2, v3, v4, v5, v6, v7⟩, -⟩ := cells8 K15.out
  have s15 : (w15.cell? ⟨b3, 2, none⟩ = some (.slice (some q) (N + 1) M2.sc) ∧ w15.cell? ⟨b3, 3, none⟩ = some (.slice M2.fA 0 M2.fc) ∧ w15.cell? ⟨b3, 7, none⟩ = some (iv 0) ∧ w15.cell? ⟨b8, 0, none⟩ = some (iv x.kind) ∧ w15.cell? ⟨b8, 1, none⟩ = some (iv x.int) ∧ w15.cell? ⟨b8, 2, none⟩ = some (.slice x.A x.list.length x.c) ∧ w15.cell? ⟨b8, 3, none⟩ = some (iv x.block) ∧ w15.cell? ⟨b8, 4, none⟩ = some (eS) ∧ w15.cell? ⟨b8, 5, none⟩ = some (eS) ∧ w15.cell? ⟨b8, 6, none⟩ = some (nilS) ∧ w15.cell? ⟨b8, 7, none⟩ = some (nilS) ∧ w15.cell? q1 = some (iv x.kind) ∧ w15.cell? ⟨q1.block, q1.off + 1, none⟩ = some (iv x.int) ∧ w15.cell? ⟨q1.block, q1.off + 2, none⟩ = some (.slice x.A x.list.length x.c) ∧ w15.cell? ⟨q1.block, q1.off + 3, none⟩ = some (iv x.block) ∧ w15.cell? ⟨q1.block, q1.off + 4, none⟩ = some (eS) ∧ w15.cell? ⟨q1.block, q1.off + 5, none⟩ = some (eS) ∧ w15.cell? ⟨q1.block, q1.off + 6, none⟩ = some (nilS) ∧ w15.cell? ⟨q1.block, q1.off + 7, none⟩ = some (nilS)) ∧ Hid (EB w w15 b3 b8 q1 M2 x tg1) := ⟨⟨m2, m3, m7, v0, v1, v2, v3, v4, v5, v6, v7, c0, c1, c2, c3, c4, c5, c6, c7⟩, Lib.hid eb⟩
  have KS := Lib.hid (fun V V' (h : (V.cell? ⟨b3, 2, none⟩ = some (.slice (some q) (N + 1) M2.sc) ∧ V.cell? ⟨b3, 3, none⟩ = some (.slice M2.fA 0 M2.fc) ∧ V.cell? ⟨b3, 7, none⟩ = some (iv 0) ∧ V.cell? ⟨b8, 0, none⟩ = some (iv x.kind) ∧ V.cell? ⟨b8, 1, none⟩ = some (iv x.int) ∧ V.cell? ⟨b8, 2, none⟩ = some (.slice x.A x.list.length x.c) ∧ V.cell? ⟨b8, 3, none⟩ = some (iv x.block) ∧ V.cell? ⟨b8, 4, none⟩ = some (eS) ∧ V.cell? ⟨b8, 5, none⟩ = some (eS) ∧ V.cell? ⟨b8, 6, none⟩ = some (nilS) ∧ V.cell? ⟨b8, 7, none⟩ = some (nilS) ∧ V.cell? q1 = some (iv x.kind) ∧ V.cell? ⟨q1.block, q1.off + 1, none⟩ = some (iv x.int) ∧ V.cell? ⟨q1.block, q1.off + 2, none⟩ = some (.slice x.A x.list.length x.c) ∧ V.cell? ⟨q1.block, q1.off + 3, none⟩ = some (iv x.block) ∧ V.cell? ⟨q1.block, q1.off + 4, none⟩ = some (eS) ∧ V.cell? ⟨q1.block, q1.off + 5, none⟩ = some (eS) ∧ V.cell? ⟨q1.block, q1.off + 6, none⟩ = some (nilS) ∧ V.cell? ⟨q1.block, q1.off + 7, none⟩ = some (nilS)) ∧ Hid (EB w V b3 b8 q1 M2 x tg1)) (g : V.grownBy V' none) => (by
    have eb := h.2.out
    have kc : ∀ a : Addr, a.block < V.heap.size → V'.cell? a = V.cell? a := fun a ha => World.cell?_of_block (g.block _ ha (by simp))
    have l3 := eb.h.lt
    have l8 := heap_lt eb.k8
    have lq := eb.hq
    obtain ⟨⟨m2, m3, m7, v0, v1, v2, v3, v4, v5, v6, v7, c0, c1, c2, c3, c4, c5, c6, c7⟩, -⟩ := h
    exact ⟨⟨(kc _ l3).trans m2, (kc _ l3).trans m3, (kc _ l3).trans m7, (kc _ l8).trans v0, (kc _ l8).trans v1, (kc _ l8).trans v2, (kc _ l8).trans v3, (kc _ l8).trans v4, (kc _ l8).trans v5, (kc _ l8).trans v6, (kc _ l8).trans v7, (kc _ lq).trans c0, (kc ⟨q1.block, q1.off + 1, none⟩ lq).trans c1, (kc ⟨q1.block, q1.off + 2, none⟩ lq).trans c2, (kc ⟨q1.block, q1.off + 3, none⟩ lq).trans c3, (kc ⟨q1.block, q1.off + 4, none⟩ lq).trans c4, (kc ⟨q1.block, q1.off + 5, none⟩ lq).trans c5, (kc ⟨q1.block, q1.off + 6, none⟩ lq).trans c6, (kc ⟨q1.block, q1.off + 7, none⟩ lq).trans c7⟩, Lib.hid (eb.grow g)⟩ : (V'.cell? ⟨b3, 2, none⟩ = some (.slice (some q) (N + 1) M2.sc) ∧ V'.cell? ⟨b3, 3, none⟩ = some (.slice M2.fA 0 M2.fc) ∧ V'.cell? ⟨b3, 7, none⟩ = some (iv 0) ∧ V'.cell? ⟨b8, 0, none⟩ = some (iv x.kind) ∧ V'.cell? ⟨b8, 1, none⟩ = some (iv x.int) ∧ V'.cell? ⟨b8, 2, none⟩ = some (.slice x.A x.list.length x.c) ∧ V'.cell? ⟨b8, 3, none⟩ = some (iv x.block) ∧ V'.cell? ⟨b8, 4, none⟩ = some (eS) ∧ V'.cell? ⟨b8, 5, none⟩ = some (eS) ∧ V'.cell? ⟨b8, 6, none⟩ = some (nilS) ∧ V'.cell? ⟨b8, 7, none⟩ = some (nilS) ∧ V'.cell? q1 = some (iv x.kind) ∧ V'.cell? ⟨q1.block, q1.off + 1, none⟩ = some (iv x.int) ∧ V'.cell? ⟨q1.block, q1.off + 2, none⟩ = some (.slice x.A x.list.length x.c) ∧ V'.cell? ⟨q1.block, q1.off + 3, none⟩ = some (iv x.block) ∧ V'.cell? ⟨q1.block, q1.off + 4, none⟩ = some (eS) ∧ V'.cell? ⟨q1.block, q1.off + 5, none⟩ = some (eS) ∧ V'.cell? ⟨q1.block, q1.off + 6, none⟩ = some (nilS) ∧ V'.cell? ⟨q1.block, q1.off + 7, none⟩ = some (nilS)) ∧ Hid (EB w V' b3 b8 q1 M2 x tg1)))
  have S0 := Lib.hid (KS.out _ _ s15 (grown_drew _))
  have SA := Lib.hid (fun V (h : (V.cell? ⟨b3, 2, none⟩ = some (.slice (some q) (N + 1) M2.sc) ∧ V.cell? ⟨b3, 3, none⟩ = some (.slice M2.fA 0 M2.fc) ∧ V.cell? ⟨b3, 7, none⟩ = some (iv 0) ∧ V.cell? ⟨b8, 0, none⟩ = some (iv x.kind) ∧ V.cell? ⟨b8, 1, none⟩ = some (iv x.int) ∧ V.cell? ⟨b8, 2, none⟩ = some (.slice x.A x.list.length x.c) ∧ V.cell? ⟨b8, 3, none⟩ = some (iv x.block) ∧ V.cell? ⟨b8, 4, none⟩ = some (eS) ∧ V.cell? ⟨b8, 5, none⟩ = some (eS) ∧ V.cell? ⟨b8, 6, none⟩ = some (nilS) ∧ V.cell? ⟨b8, 7, none⟩ = some (nilS) ∧ V.cell? q1 = some (iv x.kind) ∧ V.cell? ⟨q1.block, q1.off + 1, none⟩ = some (iv x.int) ∧ V.cell? ⟨q1.block, q1.off + 2, none⟩ = some (.slice x.A x.list.length x.c) ∧ V.cell? ⟨q1.block, q1.off + 3, none⟩ = some (iv x.block) ∧ V.cell? ⟨q1.block, q1.off + 4, none⟩ = some (eS) ∧ V.cell? ⟨q1.block, q1.off + 5, none⟩ = some (eS) ∧ V.cell? ⟨q1.block, q1.off + 6, none⟩ = some (nilS) ∧ V.cell? ⟨q1.block, q1.off + 7, none⟩ = some (nilS)) ∧ Hid (EB w V b3 b8 q1 M2 x tg1)) => (same_any x x V h.2.out.lx h.2.out.lx rfl).mono fun e V' (h2 : e = .returned (.bool true) ∧ V.grownBy V' none) => (⟨h2.1, KS.out V V' h h2.2⟩ : e = .returned (.bool true) ∧ (V'.cell? ⟨b3, 2, none⟩ = some (.slice (some q) (N + 1) M2.sc) ∧ V'.cell? ⟨b3, 3, none⟩ = some (.slice M2.fA 0 M2.fc) ∧ V'.cell? ⟨b3, 7, none⟩ = some (iv 0) ∧ V'.cell? ⟨b8, 0, none⟩ = some (iv x.kind) ∧ V'.cell? ⟨b8, 1, none⟩ = some (iv x.int) ∧ V'.cell? ⟨b8, 2, none⟩ = some (.slice x.A x.list.length x.c) ∧ V'.cell? ⟨b8, 3, none⟩ = some (iv x.block) ∧ V'.cell? ⟨b8, 4, none⟩ = some (eS) ∧ V'.cell? ⟨b8, 5, none⟩ = some (eS) ∧ V'.cell? ⟨b8, 6, none⟩ = some (nilS) ∧ V'.cell? ⟨b8, 7, none⟩ = some (nilS) ∧ V'.cell? q1 = some (iv x.kind) ∧ V'.cell? ⟨q1.block, q1.off + 1, none⟩ = some (iv x.int) ∧ V'.cell? ⟨q1.block, q1.off + 2, none⟩ = some (.slice x.A x.list.length x.c) ∧ V'.cell? ⟨q1.block, q1.off + 3, none⟩ = some (iv x.block) ∧ V'.cell? ⟨q1.block, q1.off + 4, none⟩ = some (eS) ∧ V'.cell? ⟨q1.block, q1.off + 5, none⟩ = some (eS) ∧ V'.cell? ⟨q1.block, q1.off + 6, none⟩ = some (nilS) ∧ V'.cell? ⟨q1.block, q1.off + 7, none⟩ = some (nilS)) ∧ Hid (EB w V' b3 b8 q1 M2 x tg1)))
  have SW := Lib.hid (fun V (h : (V.cell? ⟨b3, 2, none⟩ = some (.slice (some q) (N + 1) M2.sc) ∧ V.cell? ⟨b3, 3, none⟩ = some (.slice M2.fA 0 M2.fc) ∧ V.cell? ⟨b3, 7, none⟩ = some (iv 0) ∧ V.cell? ⟨b8, 0, none⟩ = some (iv x.kind) ∧ V.cell? ⟨b8, 1, none⟩ = some (iv x.int) ∧ V.cell? ⟨b8, 2, none⟩ = some (.slice x.A x.list.length x.c) ∧ V.cell? ⟨b8, 3, none⟩ = some (iv x.block) ∧ V.cell? ⟨b8, 4, none⟩ = some (eS) ∧ V.cell? ⟨b8, 5, none⟩ = some (eS) ∧ V.cell? ⟨b8, 6, none⟩ = some (nilS) ∧ V.cell? ⟨b8, 7, none⟩ = some (nilS) ∧ V.cell? q1 = some (iv x.kind) ∧ V.cell? ⟨q1.block, q1.off + 1, none⟩ = some (iv x.int) ∧ V.cell? ⟨q1.block, q1.off + 2, none⟩ = some (.slice x.A x.list.length x.c) ∧ V.cell? ⟨q1.block, q1.off + 3, none⟩ = some (iv x.block) ∧ V.cell? ⟨q1.block, q1.off + 4, none⟩ = some (eS) ∧ V.cell? ⟨q1.block, q1.off + 5, none⟩ = some (eS) ∧ V.cell? ⟨q1.block, q1.off + 6, none⟩ = some (nilS) ∧ V.cell? ⟨q1.block, q1.off + 7, none⟩ = some (nilS)) ∧ Hid (EB w V b3 b8 q1 M2 x tg1)) => (awake_any V).mono fun e V' (h2 : e = .returned (.bool true) ∧ V.grownBy V' none) => (⟨h2.1, KS.out V V' h h2.2⟩ : e = .returned (.bool true) ∧ (V'.cell? ⟨b3, 2, none⟩ = some (.slice (some q) (N + 1) M2.sc) ∧ V'.cell? ⟨b3, 3, none⟩ = some (.slice M2.fA 0 M2.fc) ∧ V'.cell? ⟨b3, 7, none⟩ = some (iv 0) ∧ V'.cell? ⟨b8, 0, none⟩ = some (iv x.kind) ∧ V'.cell? ⟨b8, 1, none⟩ = some (iv x.int) ∧ V'.cell? ⟨b8, 2, none⟩ = some (.slice x.A x.list.length x.c) ∧ V'.cell? ⟨b8, 3, none⟩ = some (iv x.block) ∧ V'.cell? ⟨b8, 4, none⟩ = some (eS) ∧ V'.cell? ⟨b8, 5, none⟩ = some (eS) ∧ V'.cell? ⟨b8, 6, none⟩ = some (nilS) ∧ V'.cell? ⟨b8, 7, none⟩ = some (nilS) ∧ V'.cell? q1 = some (iv x.kind) ∧ V'.cell? ⟨q1.block, q1.off + 1, none⟩ = some (iv x.int) ∧ V'.cell? ⟨q1.block, q1.off + 2, none⟩ = some (.slice x.A x.list.length x.c) ∧ V'.cell? ⟨q1.block, q1.off + 3, none⟩ = some (iv x.block) ∧ V'.cell? ⟨q1.block, q1.off + 4, none⟩ = some (eS) ∧ V'.cell? ⟨q1.block, q1.off + 5, none⟩ = some (eS) ∧ V'.cell? ⟨q1.block, q1.off + 6, none⟩ = some (nilS) ∧ V'.cell? ⟨q1.block, q1.off + 7, none⟩ = some (nilS)) ∧ Hid (EB w V' b3 b8 q1 M2 x tg1)))
  unfold AV.v at SA
  clear KS s15 eb H15 K15 hlx hR hA hl hx hF0 HS NS F0 c0 c1 c2 c3 c4 c5 c6 c7 v0 v1 v2 v3 v4 v5 v6 v7 AW
  clear EN EN0 HD H0 HI HL HPW P2 P3
  go_wp2_with fail
  clear m0 m1 m4 m5 m6 m2 m3 m7 mf
  go_region_held3 (fun W => (W.cell? ⟨b3, 2, none⟩ = some (.slice (some q) (N + 1) M2.sc) ∧ W.cell? ⟨b3, 3, none⟩ = some (.slice M2.fA 0 M2.fc) ∧ W.cell? ⟨b3, 7, none⟩ = some (iv 0) ∧ W.cell? ⟨b8, 0, none⟩ = some (iv x.kind) ∧ W.cell? ⟨b8, 1, none⟩ = some (iv x.int) ∧ W.cell? ⟨b8, 2, none⟩ = some (.slice x.A x.list.length x.c) ∧ W.cell? ⟨b8, 3, none⟩ = some (iv x.block) ∧ W.cell? ⟨b8, 4, none⟩ = some (eS) ∧ W.cell? ⟨b8, 5, none⟩ = some (eS) ∧ W.cell? ⟨b8, 6, none⟩ = some (nilS) ∧ W.cell? ⟨b8, 7, none⟩ = some (nilS) ∧ W.cell? q1 = some (iv x.kind) ∧ W.cell? ⟨q1.block, q1.off + 1, none⟩ = some (iv x.int) ∧ W.cell? ⟨q1.block, q1.off + 2, none⟩ = some (.slice x.A x.list.length x.c) ∧ W.cell? ⟨q1.block, q1.off + 3, none⟩ = some (iv x.block) ∧ W.cell? ⟨q1.block, q1.off + 4, none⟩ = some (eS) ∧ W.cell? ⟨q1.block, q1.off + 5, none⟩ = some (eS) ∧ W.cell? ⟨q1.block, q1.off + 6, none⟩ = some (nilS) ∧ W.cell? ⟨q1.block, q1.off + 7, none⟩ = some (nilS)) ∧ Hid (EB w W b3 b8 q1 M2 x tg1)) (first | assumption | exact S0.out) (first | (go_at_call 24; refine (SA.out _ (by assumption)).mono ?_; rintro e wa ⟨rfl, ha⟩) | (go_at_call 14; refine (SW.out _ (by assumption)).mono ?_; rintro e wb ⟨rfl, hb⟩))
  all_goals go_wp2
  all_goals go_ret
  all_goals exact ⟨rfl, hb.2.out.h.gr⟩
theorem law_ends_any (p : Prg) (s : Int) (w : World) (hp : p.Rd w) (hl : LenP p) : Calls Tryd.prog 10 #[p.v, .int .u64 s] w fun e w' => e = .returned (.bool true) ∧ w.grownBy w' none := by
  by_cases h : Small p
  · by_cases hst : p.ss = [] ∨ errP p ≠ 0
    · exact law_ends_none p s w hp hl h hst
    · obtain ⟨st, ss, hs⟩ : ∃ st ss, p.ss = st :: ss := by
        cases h : p.ss with
        | nil => exact absurd (.inl h) hst
        | cons a b => exact ⟨a, b, rfl⟩
      have he : errP p = 0 := Decidable.not_not.1 fun h => hst (.inr h)
      have hI : MI 1 (begM p.bs st.block s) := bAM_MI he hs hl.i s 0
      obtain ⟨k', hk', e1, e2, e3⟩ := run_endF 200 1 (begM p.bs st.block s) hI rfl
      have e1' : MI 401 (runE 200 (begM p.bs st.block s)).1 := ⟨⟨by have := e1.ok.1; omega, by have := e1.ok.2.1; omega, fun v hv => (e1.ok.2.2.1 v hv).mono (by omega), fun f hf => (e1.ok.2.2.2 f hf).mono (by omega)⟩, e1.vb, e1.lb, e1.st, e1.fd, e1.ds⟩
      rcases e3 with ⟨r1, r2, r3⟩ | ⟨r1, r2, r3⟩ | ⟨r1, r2, r3⟩
      · exact law_ends_run p s st ss _ w hp hl h hs he (Prod.ext rfl r1) e1' r2 r3
      · exact law_ends_done p s st ss _ w hp hl h hs he (Prod.ext rfl r1) e1' r2 r3
      · exact law_ends_err p s st ss _ w hp hl h hs he (Prod.ext rfl r1) e1' _ r3 r2 rfl
  · exact law_ends_big p s w hp hl h
end Go.Proofs.YtdfllhmkgphcmaaDoor
