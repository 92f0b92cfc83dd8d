/- The law MachineChance. -/
import Derived.Test.YtdfllhmkgphcmaaDoorLawC
import Derived.Test.YtdfllhmkgphcmaaDoorSmi
import Derived.Test.YtdfllhmkgphcmaaDoorLtM
import Derived.Test.YtdfllhmkgphcmaaDoorLtH
import Derived.Deep.CutRange
namespace Go.Proofs.YtdfllhmkgphcmaaDoor
open Go.RowKit

theorem start_none (p : Prg) (s : Int) (V : World) (hp : p.Rd V) (hl : LenP p) (h : p.ss = [] ∨ errP p ≠ 0) : Calls Tryd.prog 18 #[p.v, .int .u64 s] V fun e V' => e = .returned (.tuple #[.agg #[nilS, nilS, nilS, nilS, iv 0, .int .u64 0, .bool false, iv 0], .bool false]) ∧ V.grownBy V' none :=
  (start_any p s V hp hl).mono fun e V' h1 => by
    obtain ⟨g, ⟨_, rfl⟩ | ⟨s', ss', B, h2, h3, _⟩⟩ := h1
    · exact ⟨rfl, g⟩
    · rcases h with h | h
      · rw [h2] at h; cases h
      · exact absurd h3 h
theorem start_at (p : Prg) (s : Int) (st : Stt) (ss : List Stt) (V : World) (hp : p.Rd V) (hl : LenP p) (hs : p.ss = st :: ss) (he : errP p = 0) : Calls Tryd.prog 18 #[p.v, .int .u64 s] V fun e V' => V.grownBy V' none ∧ ∃ B, e = .returned (.tuple #[(bAM p st.block s B).v, .bool true]) ∧ V.heap.size ≤ B ∧ V'.heap[B]? = some (.cells #[iv st.block, iv 0, nilS] 78 (0, 0)) :=
  (start_any p s V hp hl).mono fun e V' h1 => by
    obtain ⟨g, ⟨h2 | h2, rfl⟩ | ⟨s', ss', B, h2, h3, h4, h5, h6⟩⟩ := h1
    · rw [hs] at h2; cases h2
    · exact absurd he h2
    · rw [hs] at h2
      cases h2
      exact ⟨g, B, h4, h5, h6⟩
theorem begin_run (p : Prg) (s : Int) (st : Stt) (ss : List Stt) (w V : World) (B n : Nat) (hl : LenP p) (hs : p.ss = st :: ss) (he : errP p = 0) (hn : n ≤ 1000) (hx : (bAM p st.block s B).RdX w (tgB B) V) : Calls Tryd.prog 19 #[(bAM p st.block s B).v, iv n] V (RunP w (tgB B) (bAM p st.block s B) V (runE n (begM p.bs st.block s))) :=
  run_go w (tgB B) (bAM p st.block s B) V n 1 hx rfl (bAM_MI he hs hl.i s B) (by omega) (by omega) (by simp [bAM])
set_option maxRecDepth 100000 in
set_option maxHeartbeats 8000000 in
theorem law_chance_big (p : Prg) (s o : Int) (w : World) (hp : p.Rd w) (hl : LenP p) (h : ¬ Small p) : Calls Tryd.prog 5 #[p.v, .int .u64 s, .int .u64 o] w fun e w' => e = .returned (.bool true) ∧ w.grownBy w' none := by
  have L0 := Lib.hid (LC.of p w)
  have AW := Lib.hid awake_any
  have GN := Lib.hid (fun V (h1 : LC p w V) => great_yes p V (hp.below (below_of h1.gr)) hl h)
  clear hp hl h
  unfold Prg.v at *
  go_enter Tryd.func5, Tryd.ntmps5
  go_wp2_with (first | (go_at_call 11; refine (GN.out _ L0.out).mono ?_; rintro e w1 ⟨rfl, g1⟩; have L1 := Lib.hid (L0.out.grow g1); clear g1) | (go_at_call 14; refine (AW.out _).mono ?_; rintro e w2 ⟨rfl, g2⟩; have G2 := Lib.hid (L1.out.gr.trans g2); clear g2))
  go_ret
  exact ⟨rfl, G2.out⟩
set_option maxRecDepth 100000 in
set_option maxHeartbeats 8000000 in
theorem law_chance_small (p : Prg) (s o : Int) (w : World) (hp : p.Rd w) (hl : LenP p) (h : Small p) : Calls Tryd.prog 5 #[p.v, .int .u64 s, .int .u64 o] w fun e w' => e = .returned (.bool true) ∧ w.grownBy w' none := by
  have L0 := Lib.hid (LC.of p w)
  have AW := Lib.hid awake_any
  have HP := Lib.hid (fun V (h1 : LC p w V) => hp.below (below_of h1.gr))
  have GN := Lib.hid (fun V (h1 : LC p w V) => great_not p V (hp.below (below_of h1.gr)) hl h)
  have LI := Lib.hid hl.i
  have HPW := Lib.hid hp
  have HL := Lib.hid hl
  have lb := hl.b
  clear hp hl h
  unfold Prg.v at *
  go_enter Tryd.func5, Tryd.ntmps5
  go_wp2_with (first | (go_at_call 11; refine (GN.out _ L0.out).mono ?_; rintro e w1 ⟨rfl, g1⟩; have L1 := Lib.hid (L0.out.grow g1); obtain ⟨c0, c1⟩ := L1.out.c; clear g1))
  go_loopw [23] (fun i V => ∃ k : Nat, k ≤ p.bs.length ∧ i = .int .i64 k ∧ Hid (LC p w V) ∧ Hid (∀ b ∈ p.bs.take k, ∀ x ∈ b.ins, x.op ≠ 16)) (fun i _ => p.bs.length - (intOf i).toNat)
  case atStart => exact ⟨0, Nat.zero_le _, rfl, L1, Lib.hid (by simp)⟩
  case round =>
    clear L1 c0 c1
    obtain ⟨k, hk, rfl, HG, HN⟩ := hrel
    by_cases hlt : k < p.bs.length
    · obtain ⟨a, a1, hA, ha, hab, b0, b1, b2⟩ := (HP.out _ HG.out).b.blk hlt
      obtain ⟨x, hx⟩ : ∃ x, x = p.bs[k] := ⟨_, rfl⟩
      have hxm : x ∈ p.bs := by rw [hx]; exact List.getElem_mem hlt
      have HI := Lib.hid (fun V (h1 : LC p w V) => (HP.out V h1).i x hxm)
      have il := LI.out x hxm
      have HX := Lib.hid hx
      rw [← hx] at b0 b1 b2
      rw [hA]
      clear hx hxm hA
      go_wp2
      go_loopw [30] (fun i V => ∃ j : Nat, j ≤ x.ins.length ∧ i = .int .i64 j ∧ Hid (LC p w V) ∧ Hid (∀ y ∈ x.ins.take j, y.op ≠ 16)) (fun i _ => x.ins.length - (intOf i).toNat)
      case atStart => exact ⟨0, Nat.zero_le _, rfl, Lib.hid (HG.out.grow (World.grownBy_alloc _ _ none)), Lib.hid (by simp)⟩
      case round =>
        clear b0 b1 b2
        obtain ⟨j, hj, rfl, HG', HJ⟩ := hrel
        by_cases hjl : j < x.ins.length
        · obtain ⟨q, q1, hQ, hq, hqb, i0, i1, i2, i3⟩ := (HI.out _ HG'.out).ins hjl
          obtain ⟨y, hy⟩ : ∃ y, y = x.ins[j] := ⟨_, rfl⟩
          have HY := Lib.hid hy
          rw [← hy] at i0 i1 i2 i3
          rw [hQ]
          clear hy hQ
          by_cases h16 : y.op = 16
          · rw [h16] at i0
            go_wp2_with (first | (go_at_call 14; refine (AW.out _).mono ?_; rintro e w2 ⟨rfl, g2⟩; have G2 := Lib.hid ((HG'.out.gr.trans (World.grownBy_alloc _ _ none)).trans g2); clear g2))
            go_ret
            exact ⟨rfl, G2.out⟩
          · go_wp2
            refine ⟨⟨j + 1, by omega, by simp, Lib.hid (HG'.out.grow (World.grownBy_alloc _ _ none)), Lib.hid fun z hz => ?_⟩, by simp [intOf]; omega⟩
            rw [List.take_succ_eq_append_getElem hjl, ← HY.out] at hz
            rcases List.mem_append.1 hz with h | h
            · exact HJ.out z h
            · rw [List.mem_singleton.1 h]; exact h16
        · obtain rfl : j = x.ins.length := by omega
          go_wp2
          refine ⟨⟨k + 1, by omega, by simp, HG', Lib.hid fun z hz => ?_⟩, by simp [intOf]; omega⟩
          rw [List.take_succ_eq_append_getElem hlt, ← HX.out] at hz
          rcases List.mem_append.1 hz with h | h
          · exact HN.out z h
          · rw [List.mem_singleton.1 h]; have h2 := HJ.out; rw [List.take_length] at h2; exact h2
    · obtain rfl : k = p.bs.length := by omega
      have h0 := HN.out
      rw [List.take_length] at h0
      have NC : Hid (NoCh p.bs) := Lib.hid h0
      clear h0 HN
      obtain ⟨c0, c1⟩ := HG.out.c
      by_cases hst : p.ss = [] ∨ errP p ≠ 0
      · have SN := Lib.hid (fun (s : Int) V (h1 : LC p w V) => start_none p s V (HP.out V h1) HL.out hst)
        clear hst NC HL
        unfold Prg.v at *
        go_wp2_with (first | (go_at_call 18; refine (SN.out s _ HG.out).mono ?_; rintro e w3 ⟨rfl, g3⟩; have l3 := HG.out.grow g3; have c0 := (fun o => (l3.grow (World.grownBy_alloc w3 o none)).c.1); have c1 := (fun o => (l3.grow (World.grownBy_alloc w3 o none)).c.2); have L3 := Lib.hid (fun o => l3.grow (World.grownBy_alloc w3 o none)); clear l3 g3 HG) | (go_at_call 18; refine (SN.out o _ (L3.out _)).mono ?_; rintro e w5 ⟨rfl, g5⟩; have L5 := Lib.hid (fun o' => ((L3.out _).grow g5).grow (World.grownBy_alloc w5 o' none)); clear L3 g5 c0 c1) | (go_at_call 14; refine (AW.out _).mono ?_; rintro e w7 ⟨rfl, g7⟩; have L7 := Lib.hid ((L5.out _).gr.trans g7); clear g7))
        go_ret
        exact ⟨rfl, L7.out⟩
      · obtain ⟨st, ss, hs⟩ : ∃ st ss, p.ss = st :: ss := by
          cases h : p.ss with
          | nil => exact absurd (.inl h) hst
          | cons a b => exact ⟨a, b, rfl⟩
        have he : errP p = 0 := Decidable.not_not.1 fun h => hst (.inr h)
        have ST := Lib.hid (fun s V (h1 : p.Rd V) => start_at p s st ss V h1 HL.out hs he)
        have hrs := run_seed o 200 (begM p.bs st.block s) NC.out (errP_vBs he)
        obtain ⟨mm, hmm⟩ : ∃ mm, mm = (runE 200 (begM p.bs st.block s)).1 := ⟨_, rfl⟩
        obtain ⟨er, her⟩ : ∃ er, er = (runE 200 (begM p.bs st.block s)).2 := ⟨_, rfl⟩
        have R1 : runE 200 (begM p.bs st.block s) = (mm, er) := by rw [hmm, her]
        have R2 : runE 200 (begM p.bs st.block o) = (reseed mm o, er) := by rw [hmm, her]; exact hrs.2
        have SD := Lib.hid (show mm.seed = s from by rw [hmm]; exact hrs.1)
        have RU := Lib.hid (fun (t : Int) (B : Nat) (V : World) (hx : (bAM p st.block t B).RdX w (tgB B) V) (r : MM × Int) (hr : runE 200 (begM p.bs st.block t) = r) => (by rw [← hr]; exact begin_run p t st ss w V B 200 HL.out hs he (by omega) hx : Calls Tryd.prog 19 #[(bAM p st.block t B).v, iv 200] V (RunP w (tgB B) (bAM p st.block t B) V r)))
        have X1 := Lib.hid (fun B V hx => RU.out s B V hx _ R1)
        have X2 := Lib.hid (fun B V hx => RU.out o B V hx _ R2)
        clear hrs hmm her R1 R2 RU hst hs he NC
        unfold Prg.v at ST
        go_wp2_with fail
        refine (ST.out s wr (HP.out _ HG.out)).mono ?_
        rintro e w3 ⟨g3, B1, rfl, hB1, kB1⟩
        have l3 := HG.out.grow g3
        have hs3 := l3.gr.size
        have h1 := HM.start (p := p) (blk := st.block) (seed := s) HPW.out l3.gr (Nat.le_trans HG.out.gr.size hB1) kB1
        have x1 := X1.out B1
        have b1 := heap_lt kB1
        have c0 := fun o => (l3.grow (World.grownBy_alloc w3 o none)).c.1
        have c1 := fun o => (l3.grow (World.grownBy_alloc w3 o none)).c.2
        have L3 := Lib.hid l3
        have ep1 : (bAM p st.block s B1).p = p := rfl
        obtain ⟨M1, hM1⟩ : ∃ M1, M1 = bAM p st.block s B1 := ⟨_, rfl⟩
        rw [← hM1] at x1 h1 ep1 ⊢
        have EP1 := Lib.hid ep1
        have Y1 := Lib.hid x1
        have H1 := Lib.hid h1
        have BB1 := Lib.hid (show w.heap.size ≤ w3.heap.size ∧ B1 < w3.heap.size from ⟨hs3, b1⟩)
        clear HG g3 hB1 kB1 h1 l3 b1 hs3 hM1 X1 x1 ep1
        unfold AM.v
        go_wp2_with fail
        refine (ST.out o (w3.alloc (oM M1)) (HP.out _ (L3.out.grow (World.grownBy_alloc w3 (oM M1) none)))).mono ?_
        rintro e w5 ⟨g5, B2, rfl, hB2, kB2⟩
        have l5 := (L3.out.grow (World.grownBy_alloc w3 (oM M1) none)).grow g5
        have h2 := HM.start (p := p) (blk := st.block) (seed := o) HPW.out l5.gr (Nat.le_trans (L3.out.grow (World.grownBy_alloc w3 (oM M1) none)).gr.size hB2) kB2
        have x2 := X2.out B2
        have b2 := heap_lt kB2
        have q0 := fun o => ((H1.out.grow (g5.trans (World.grownBy_alloc w5 o none))).c).1.1
        have q1 := fun o => ((H1.out.grow (g5.trans (World.grownBy_alloc w5 o none))).c).1.2.1
        have q2 := fun o => ((H1.out.grow (g5.trans (World.grownBy_alloc w5 o none))).c).1.2.2.1
        have q3 := fun o => ((H1.out.grow (g5.trans (World.grownBy_alloc w5 o none))).c).1.2.2.2.1
        have q4 := fun o => ((H1.out.grow (g5.trans (World.grownBy_alloc w5 o none))).c).1.2.2.2.2.1
        have q5 := fun o => ((H1.out.grow (g5.trans (World.grownBy_alloc w5 o none))).c).1.2.2.2.2.2.1
        have q6 := fun o => ((H1.out.grow (g5.trans (World.grownBy_alloc w5 o none))).c).1.2.2.2.2.2.2.1
        have q7 := fun o => ((H1.out.grow (g5.trans (World.grownBy_alloc w5 o none))).c).1.2.2.2.2.2.2.2
        have l35 : w3.heap.size < w5.heap.size := by have := g5.size; simp at this; omega
        have hB2' : w3.heap.size < B2 := by simp at hB2; omega
        have ep2 : (bAM p st.block o B2).p = p := rfl
        obtain ⟨N1, hN1⟩ : ∃ N1, N1 = bAM p st.block o B2 := ⟨_, rfl⟩
        rw [← hN1] at x2 h2 ep2 ⊢
        have EP2 := Lib.hid ep2
        have Y2 := Lib.hid x2
        have H2 := Lib.hid h2
        have H1a := Lib.hid (H1.out.grow (g5.trans (World.grownBy_alloc w5 (oM N1) none)))
        have T1 := Lib.hid (show tgB B1 w5.heap.size = .no from tgB_no (by have := BB1.out.2; omega))
        have T2 := Lib.hid (show tgB B2 w3.heap.size = .no from tgB_no (by omega))
        have ne35 : ¬ w3.heap.size = w5.heap.size := by omega
        have ne53 : ¬ w5.heap.size = w3.heap.size := by omega
        clear L3 H1 g5 hB2 kB2 h2 l5 b2 hB2' hN1 c0 c1 X2 x2 ep2 ST
        unfold AM.v
        go_wp2_with fail
        refine (Y1.out _ H1a.out.x).mono ?_
        rintro e w7 ⟨g7, M2, tg1, rfl, hp2, her2, hx2, htg2⟩
        have h1b := H1a.out.back g7 hx2 htg2
        have h2b := (H2.out.grow g7).put M2 BB1.out.1 ne53 T2.out
        have T1b := Lib.hid (show tg1 w5.heap.size = .no from (htg2 _ (by simp)).trans T1.out)
        obtain ⟨⟨p0, p1, p2, p3, p4, p5, p6, p7⟩, pf⟩ := (H1a.out.grow g7).c
        obtain ⟨⟨m0, m1, m2, m3, m4, m5, m6, m7⟩, mf⟩ := (H2.out.grow g7).c
        have P2 := Lib.hid (show M2.p = p ∧ M2.er = mm from ⟨hp2.trans EP1.out, her2⟩)
        have ZW := Lib.hid (show w3.heap.size < (setM w7 w3.heap.size M2).heap.size from h1b.lt)
        have H1b := Lib.hid h1b
        have H2b := Lib.hid h2b
        clear H1a H2 Y1 T1 q0 q1 q2 q3 q4 q5 q6 q7 g7 hp2 her2 hx2 htg2 h1b h2b EP1
        unfold AM.v
        go_wp2_with fail
        refine (Y2.out _ H2b.out.x).mono ?_
        rintro e w9 ⟨g9, N2, tg2, rfl, hp3, her3, hx3, htg3⟩
        have h2c := H2b.out.back g9 hx3 htg3
        have h1c := (H1b.out.grow g9).put N2 H2b.out.hb ne35 T1b.out
        have s2 : M2.seed = s := (congrArg MM.seed P2.out.2).trans SD.out
        have S4 := Lib.hid (show N2.seed = o from congrArg MM.seed her3)
        have t2c : tg2 w3.heap.size = .no := (htg3 _ ZW.out).trans T2.out
        clear p0 p1 p2 p3 p4 p5 p6 p7 pf m0 m1 m2 m3 m4 m5 m6 m7 mf
        obtain ⟨⟨p0, p1, p2, p3, p4, p5, p6, p7⟩, pf⟩ := (H2b.out.grow g9).c
        obtain ⟨⟨m0, m1, m2, m3, m4, m5, m6, m7⟩, mf⟩ := (H1b.out.grow g9).c
        have e9 : (reseed mm o, er).2 = er := rfl
        have her5 : N2.er = reseed mm o := her3
        have hp4 : N2.p = M2.p := (hp3.trans EP2.out).trans P2.out.1.symm
        have H1c := Lib.hid h1c
        have H2c := Lib.hid h2c
        have TT := Lib.hid (show tg1 w5.heap.size = .no ∧ tg2 w3.heap.size = .no from ⟨T1b.out, t2c⟩)
        have HB5 := Lib.hid H2b.out.hb
        have ER5 := Lib.hid (show N2.er = reseed mm o ∧ N2.p = M2.p from ⟨her5, hp4⟩)
        clear H1b H2b Y2 g9 hp3 her3 hx3 htg3 h2c h1c t2c T1b T2 ZW EP2 her5 hp4
        unfold AM.v
        rw [s2, e9]
        clear e9
        rw [s2] at m5
        go_upto_region 21 with fail
        obtain ⟨V, hV⟩ : ∃ V, V = setM w9 w5.heap.size N2 := ⟨_, rfl⟩
        rw [← hV] at H1c H2c
        unfold setM set36 at hV
        rw [← hV]
        clear hV p0 p1 p2 p3 p4 p5 p6 p7 pf m0 m1 m2 m3 m4 m5 m6 m7 mf
        obtain ⟨⟨p0, p1, p2, p3, p4, p5, p6, p7⟩, pf⟩ := H2c.out.c
        obtain ⟨⟨m0, m1, m2, m3, m4, m5, m6, m7⟩, mf⟩ := H1c.out.c
        rw [s2] at m5
        have s4 := S4.out
        rw [s4] at p5
        have SM := Lib.hid (sameM_any M2 (N2.reseed s) _ (H1c.out.keep HB5.out ne35 TT.out.1 5 (.int .u64 s)).x.rd (H2c.out.reseed s).x.rd ER5.out.2 (by
          have h5 : (N2.reseed s).er = reseed N2.er s := rfl
          have h6 : reseed (reseed mm o) s = reseed mm s := rfl
          have h7 : reseed mm s = mm := by rw [← SD.out]; rfl
          rw [h5, ER5.out.1, h6, h7, P2.out.2]) (by rw [P2.out.1]; exact HL.out) (by have := H1c.out.x.fc; have := H1c.out.x.fm; omega))
        unfold AM.v at SM
        simp only [AM.reseed, s2] at SM
        have GF := Lib.hid (H1c.out.keep HB5.out ne35 TT.out.1 5 (.int .u64 s)).gr
        clear H1c H2c TT HB5 ER5 P2 SD
        go_wp2_with (first | (go_at_call 17; refine SM.out.mono ?_; rintro e wa ⟨rfl, ga⟩; have GA := Lib.hid (GF.out.trans ga); clear ga SM GF) | (go_at_call 14; refine (AW.out _).mono ?_; rintro e wb ⟨rfl, gb⟩; have GB := Lib.hid (GA.out.trans gb); clear gb))
        go_ret
        exact ⟨rfl, GB.out⟩
theorem law_chance_any (p : Prg) (s o : Int) (w : World) (hp : p.Rd w) (hl : LenP p) : Calls Tryd.prog 5 #[p.v, .int .u64 s, .int .u64 o] w fun e w' => e = .returned (.bool true) ∧ w.grownBy w' none := by
  by_cases h : Small p
  · exact law_chance_small p s o w hp hl h
  · exact law_chance_big p s o w hp hl h
end Go.Proofs.YtdfllhmkgphcmaaDoor
