/- The walks and the words of the family machine, part 3: ChkF, RunF, RunG, RunH, RunI, RunJ, RunK, RunL. -/
import Derived.Test.YtdfllhmkgphcmaaDoorM2
import Derived.StillTailTactics
namespace Go.Proofs.YtdfllhmkgphcmaaDoor
open Go.RowKit

set_option maxRecDepth 100000 in
set_option maxHeartbeats 8000000 in
theorem rcheck_any (p : Prg) (w : World) (hp : p.Rd w) (hb : p.bs.length ≤ 9223372036854775807) (hs : p.ss.length ≤ 9223372036854775807) (hi : ∀ b ∈ p.bs, b.ins.length ≤ 9223372036854775807) (hnp : ∀ s ∈ p.ss, s.pack.length ≤ 9223372036854775807) :
    Calls Tryd.prog 13 #[p.v] w fun e w' => e = .returned (.int .i64 (errP p)) ∧ Below w.heap.size w w' := by
  unfold Prg.v
  obtain ⟨W, hW⟩ : ∃ W, W = w.alloc (.cells #[.slice p.bA p.bs.length p.bc, .slice p.sA p.ss.length p.sc] 25) := ⟨_, rfl⟩
  have hB0 : Below w.heap.size w W := by rw [hW]; exact (Below.refl _ _).alloc (Nat.le_refl _) _
  have hbx : W.heap[w.heap.size]? = some (.cells #[.slice p.bA p.bs.length p.bc, .slice p.sA p.ss.length p.sc] 25 (0, 0)) := by rw [hW]; exact al_new w _
  have ALL := Lib.hid (fun (V : World) (h : Below W.heap.size W V) => show p.Rd V ∧ V.cell? ⟨w.heap.size, 0, none⟩ = some (.slice p.bA p.bs.length p.bc) ∧ V.cell? ⟨w.heap.size, 1, none⟩ = some (.slice p.sA p.ss.length p.sc) from by
    have hk := (h.block _ (heap_lt hbx)).trans hbx
    exact ⟨(hp.below hB0).below h, by rw [Lib.cell_of_heap hk]; rfl, by rw [Lib.cell_of_heap hk]; rfl⟩)
  obtain ⟨-, x0, x1⟩ := ALL.out W (Below.refl _ _)
  have HB0 := Lib.hid hB0
  have HW := Lib.hid hW
  clear hW hB0 hbx hp
  go_enter Tryd.func13, Tryd.ntmps13
  go_wp2
  rw [← HW.out]
  go_loopw [3, 4] (fun c i wr => ∃ k : Nat, k ≤ p.bs.length ∧ i = .int .i64 k ∧ c = .int .i64 (cntW (p.bs.take k)) ∧ Hid (Below W.heap.size W wr)) (fun _ i _ => p.bs.length - (intOf i).toNat)
  case atStart => exact ⟨0, Nat.zero_le _, rfl, rfl, Lib.hid (Below.refl _ _)⟩
  case round =>
    obtain ⟨k, hk, rfl, rfl, HB⟩ := hrel
    by_cases hlt : k < p.bs.length
    · obtain ⟨hpr, y0, y1⟩ := ALL.out wr HB.out
      obtain ⟨a, a1, hA, ha, hab, c0, c1, c2⟩ := hpr.b.blk hlt
      have hcs := cntW_succ hlt
      have HCS := Lib.hid hcs
      rw [hA] at y0
      clear hcs hpr x0 x1 hA
      go_wp2
      exact ⟨⟨k + 1, by omega, by simp, by rw [HCS.out], HB⟩, by simp [intOf]; omega⟩
    · obtain rfl : k = p.bs.length := by omega
      rw [List.take_length]
      obtain ⟨hpr, y0, y1⟩ := ALL.out wr HB.out
      have HB1 := Lib.hid (HB0.out.trans (HB.out.mono HB0.out.size))
      by_cases h4 : 2000 < p.bs.length ∨ 20000 < cntW p.bs
      · have hE : Hid (errP p = 4) := Lib.hid (by unfold errP; rw [if_pos h4])
        clear hpr x0 x1
        by_cases h5 : 2000 < p.bs.length
        · have z1 : (2000 : Int) < (p.bs.length : Int) := by omega
          go_wp2
          go_ret
          exact ⟨by rw [hE.out]; rfl, HB1.out⟩
        · have z1 : ¬ (2000 : Int) < (p.bs.length : Int) := by omega
          have z2 : 20000 < cntW p.bs := h4.resolve_left h5
          go_wp2
          go_ret
          exact ⟨by rw [hE.out]; rfl, HB1.out⟩
      · have z1 : ¬ (2000 : Int) < (p.bs.length : Int) := by omega
        have z2 : ¬ 20000 < cntW p.bs := fun h => h4 (.inr h)
        have hE : Hid (errP p = if fe (p.bs.map (errB p.bs)) ≠ 0 then fe (p.bs.map (errB p.bs)) else fe ((List.range p.ss.length).map (errS p.bs p.ss))) := Lib.hid (by unfold errP; rw [if_neg h4])
        clear hpr x0 x1 HB1 h4
        have FB := Lib.hid (Nat.le_refl 0)
        go_wp2
        go_loopw [5, 6, 7, 8] (fun i _ _ _ wr => ∃ k : Nat, k ≤ p.bs.length ∧ i = .int .i64 k ∧ Hid (Below W.heap.size W wr) ∧ Hid (fe ((p.bs.map (errB p.bs)).take k) = 0)) (fun i _ _ _ _ => p.bs.length - (intOf i).toNat)
        case atStart => exact ⟨0, Nat.zero_le _, rfl, HB, Lib.hid rfl⟩
        case round =>
          clear HB
          obtain ⟨k, hk, rfl, HB, HF⟩ := hrel
          by_cases hlt : k < p.bs.length
          · obtain ⟨hpr, y0', y1'⟩ := ALL.out wr HB.out
            obtain ⟨a, a1, hA, ha, hab, c0, c1, c2⟩ := hpr.b.blk hlt
            have hA' := Lib.hid hA
            obtain ⟨blk, hblk⟩ : ∃ blk, blk = p.bs[k] := ⟨_, rfl⟩
            rw [← hblk] at c0 c1 c2
            have HBK := Lib.hid hblk
            have hml : k < (p.bs.map (errB p.bs)).length := by simpa using hlt
            obtain ⟨f1, f2⟩ := fe_at hml HF.out
            rw [List.getElem_map, ← hblk] at f1 f2
            have F1 := Lib.hid f1
            have F2 := Lib.hid f2
            have hbm : blk ∈ p.bs := by rw [hblk]; exact List.getElem_mem hlt
            have hil := hi blk hbm
            have HBM := Lib.hid hbm
            have WI : ∀ V, Calls Tryd.prog 29 #[.int .i64 blk.cap, .int .i64 0, .int .i64 1000] V fun e w' => e = .returned (.bool (decide (0 ≤ blk.cap) && decide (blk.cap ≤ 1000))) ∧ w' = V := fun V => within_any blk.cap 0 1000 V
            rw [hA] at y0'
            have yl := heap_lt_cell y0'
            have y0a := fun o => cell_al y0' yl o
            have y1a := fun o => cell_al y1' yl o
            clear f1 f2 hpr hblk hA hbm y0 y1
            by_cases hc : blk.cap < 0 ∨ 1000 < blk.cap
            · have e2 : errB p.bs blk = 2 := by unfold errB; rw [if_pos hc]
              have hE2 : Hid (errP p = 2) := Lib.hid (by rw [hE.out, F1.out (by rw [e2]; decide), e2]; rfl)
              have HB1 := fun o => Lib.hid (HB0.out.trans ((HB.out.alloc HB.out.size o).mono HB0.out.size))
              clear e2
              have hw0 : (decide (0 ≤ blk.cap) && decide (blk.cap ≤ 1000)) = false := by
                rcases hc with h | h
                · simp [show ¬ 0 ≤ blk.cap by omega]
                · simp [show ¬ blk.cap ≤ 1000 by omega]
              rw [hw0] at WI
              have WI := Lib.hid WI
              clear hw0 hc
              go_wp2_with (go_at_call 29; refine (WI.out _).mono ?_; rintro e w3 ⟨rfl, rfl⟩)
              go_ret
              exact ⟨by rw [hE2.out]; rfl, (HB1 _).out⟩
            · have hc0 : ¬ blk.cap < 0 := fun h => hc (.inl h)
              have hc1 : ¬ 1000 < blk.cap := fun h => hc (.inr h)
              have eB : Hid (errB p.bs blk = fe (errI p.bs blk)) := Lib.hid (by unfold errB; rw [if_neg hc])
              have eL : (errI p.bs blk).length = blk.ins.length := by simp [errI]
              have HBA := fun o => Lib.hid (HB.out.alloc HB.out.size o)
              have kn := fun o => Lib.hid (al_new wr o)
              have hw0 : (decide (0 ≤ blk.cap) && decide (blk.cap ≤ 1000)) = true := by simp; omega
              rw [hw0] at WI
              have WI := Lib.hid WI
              clear hw0 hc hc0 hc1
              go_wp2_with (go_at_call 29; refine (WI.out _).mono ?_; rintro e w3 ⟨rfl, rfl⟩)
              generalize hM7 : wr.heap.size = M7 at *
              have kn7 := kn (.cells #[.int .i64 blk.cap, .bool blk.param, .slice blk.A blk.ins.length blk.c] 43)
              have hb7 := HBA (.cells #[.int .i64 blk.cap, .bool blk.param, .slice blk.A blk.ins.length blk.c] 43)
              clear kn HBA
              generalize wr.alloc (.cells #[.int .i64 blk.cap, .bool blk.param, .slice blk.A blk.ins.length blk.c] 43) = V7 at *
              have ALL7 := Lib.hid (fun (v : World) (h : Below V7.heap.size V7 v) => show (p.Rd v ∧ v.cell? ⟨w.heap.size, 0, none⟩ = some (.slice p.bA p.bs.length p.bc) ∧ v.cell? ⟨w.heap.size, 1, none⟩ = some (.slice p.sA p.ss.length p.sc)) ∧ v.cell? ⟨M7, 0, none⟩ = some (.int .i64 blk.cap) ∧ v.cell? ⟨M7, 1, none⟩ = some (.bool blk.param) ∧ v.cell? ⟨M7, 2, none⟩ = some (.slice blk.A blk.ins.length blk.c) ∧ Below W.heap.size W v from by
                have hk := (h.block _ (heap_lt kn7.out)).trans kn7.out
                have hb := hb7.out.trans (h.mono hb7.out.size)
                exact ⟨ALL.out v hb, by rw [Lib.cell_of_heap hk]; rfl, by rw [Lib.cell_of_heap hk]; rfl, by rw [Lib.cell_of_heap hk]; rfl, hb⟩)
              clear hM7 hb7 kn7
              go_loopw [7, 8] (fun i _ v => ∃ j : Nat, j ≤ blk.ins.length ∧ i = .int .i64 j ∧ Hid (Below V7.heap.size V7 v) ∧ Hid (fe ((errI p.bs blk).take j) = 0)) (fun i _ _ => blk.ins.length - (intOf i).toNat)
              case atStart => exact ⟨0, Nat.zero_le _, rfl, Lib.hid (Below.refl _ _), Lib.hid rfl⟩
              case round =>
                obtain ⟨j, hj, rfl, HV, HG⟩ := hrel
                obtain ⟨⟨pv, y0, y1⟩, d0, d1, d2, bv⟩ := ALL7.out _ HV.out
                by_cases hjl : j < blk.ins.length
                · obtain ⟨b', b1, hbA, hb1, hbb, i0, i1, i2, i3⟩ := (pv.i blk HBM.out).ins hjl
                  obtain ⟨x, hx⟩ : ∃ x, x = blk.ins[j] := ⟨_, rfl⟩
                  rw [← hx] at i0 i1 i2 i3
                  have hxm : x ∈ blk.ins := by rw [hx]; exact List.getElem_mem hjl
                  obtain ⟨g1, g2⟩ := fe_at (L := errI p.bs blk) (by rw [eL]; exact hjl) HG.out
                  have eg : (errI p.bs blk)[j]'(by rw [eL]; exact hjl) = ckI p.bs blk.ins.length x.op x.a x.b x.name := by simp [errI, hx]
                  rw [eg] at g1 g2
                  have G1 := Lib.hid g1
                  have G2 := Lib.hid g2
                  have CK : ∀ V, Below wr.heap.size wr V → Calls Tryd.prog 30 #[.agg #[.slice p.bA p.bs.length p.bc, .slice p.sA p.ss.length p.sc], .agg #[.int .i64 blk.cap, .bool blk.param, .slice blk.A blk.ins.length blk.c], .agg #[.int .i64 x.op, .int .i64 x.a, .int .i64 x.b, .string ⟨x.name.toArray⟩]] V fun e w' => e = .returned (.int .i64 (ckI p.bs blk.ins.length x.op x.a x.b x.name)) ∧ Below wr.heap.size wr w' := fun V hV =>
                    (instr_any p blk x.op x.a x.b x.name V (pv.below hV) hb).mono fun e w' h => ⟨h.1, hV.trans (h.2.mono hV.size)⟩
                  have bdr : Below wr.heap.size wr wr.drew := ⟨rfl, rfl, rfl, Nat.le_refl _, fun _ _ => rfl⟩
                  have BDR := Lib.hid bdr
                  have eRet : ckI p.bs blk.ins.length x.op x.a x.b x.name ≠ 0 → errP p = ckI p.bs blk.ins.length x.op x.a x.b x.name := fun h => by
                    have h1 := g1 h
                    have h2 : errB p.bs blk = ckI p.bs blk.ins.length x.op x.a x.b x.name := eB.out.trans h1
                    have h3 := F1.out (by rw [h2]; exact h)
                    rw [hE.out, h3, h2, if_pos h]
                  have ER := Lib.hid eRet
                  generalize ckI p.bs blk.ins.length x.op x.a x.b x.name = ck at *
                  have BV := Lib.hid bv
                  rw [hbA] at d2 CK
                  have CK := Lib.hid CK
                  clear g1 g2 eg hbA hx hxm pv bv bdr eRet c0 c1 c2 y0' y1' y0a y1a
                  by_cases hck : ck = 0
                  · have t1 : (ck != 0) = false := by simp [hck]
                    have G3 := Lib.hid (G2.out hck)
                    have NB : ∀ w', Below wr.heap.size wr w' → Below V7.heap.size V7 w' := fun w' h => HV.out.trans (h.mono HV.out.size)
                    have NB := Lib.hid NB
                    clear hck
                    go_wp2
                    go_still_tail 7, (by kernel_rfl)
                    change wpList _ _ _ _ _ wr.drew
                    have CK2 := Lib.hid (CK.out _ BDR.out)
                    generalize wr.drew = w5 at CK2 ⊢
                    go_wp2_with (go_at_call 30; refine CK2.out.mono ?_; rintro e w3 ⟨rfl, b3⟩; have B3 := Lib.hid b3; clear b3)
                    exact ⟨⟨j + 1, by omega, by simp, Lib.hid (NB.out _ B3.out), G3⟩, by simp [intOf]; omega⟩
                  · have t1 : (ck != 0) = true := by simpa using hck
                    have E3 := Lib.hid (ER.out hck)
                    have NB : ∀ w', Below wr.heap.size wr w' → Below w.heap.size w w' := fun w' h => HB0.out.trans ((BV.out.trans (h.mono BV.out.size)).mono HB0.out.size)
                    have NB := Lib.hid NB
                    clear hck
                    go_wp2
                    go_still_tail 7, (by kernel_rfl)
                    change wpList _ _ _ _ _ wr.drew
                    have CK2 := Lib.hid (CK.out _ BDR.out)
                    generalize wr.drew = w5 at CK2 ⊢
                    go_wp2_with (go_at_call 30; refine CK2.out.mono ?_; rintro e w3 ⟨rfl, b3⟩; have B3 := Lib.hid b3; clear b3)
                    go_ret
                    exact ⟨by rw [E3.out]; rfl, NB.out _ B3.out⟩
                · obtain rfl : j = blk.ins.length := by omega
                  have h0 := HG.out
                  rw [← eL, List.take_length] at h0
                  have F3 := Lib.hid (F2.out (by rw [eB.out]; exact h0))
                  have BV := Lib.hid bv
                  clear h0 pv bv c0 c1 c2 y0' y1' y0a y1a
                  go_wp2
                  exact ⟨⟨k + 1, by omega, by simp, BV, F3⟩, by simp [intOf]; omega⟩
          · obtain rfl : k = p.bs.length := by omega
            have h0 := HF.out
            rw [show (p.bs.map (errB p.bs)).take p.bs.length = p.bs.map (errB p.bs) from List.take_of_length_le (by simp)] at h0
            have hE3 : Hid (errP p = fe ((List.range p.ss.length).map (errS p.bs p.ss))) := Lib.hid (by rw [hE.out, h0]; rfl)
            obtain ⟨hpr, y0, y1⟩ := ALL.out wr HB.out
            clear h0 HF hE hpr
            go_wp2
            clear y0 y1
            go_loopw [9, 10] (fun i _ wr => ∃ k : Nat, k ≤ p.ss.length ∧ i = .int .i64 k ∧ Hid (Below W.heap.size W wr) ∧ Hid (fe (((List.range p.ss.length).map (errS p.bs p.ss)).take k) = 0)) (fun i _ _ => p.ss.length - (intOf i).toNat)
            case atStart => exact ⟨0, Nat.zero_le _, rfl, HB, Lib.hid rfl⟩
            case round =>
              clear HB
              obtain ⟨k, hk, rfl, HB, HF⟩ := hrel
              by_cases hlt : k < p.ss.length
              · obtain ⟨hpr, y0, y1⟩ := ALL.out _ HB.out
                obtain ⟨a, a1, hA, ha, hab, c0, c1, c2⟩ := hpr.s.stt hlt
                obtain ⟨s, hs'⟩ : ∃ s, s = p.ss[k] := ⟨_, rfl⟩
                rw [← hs'] at c0 c1 c2
                have hsm : s ∈ p.ss := by rw [hs']; exact List.getElem_mem hlt
                have hsk : p.ss[k]? = some s := by rw [hs']; simp [hlt]
                obtain ⟨f1, f2⟩ := fe_at (L := (List.range p.ss.length).map (errS p.bs p.ss)) (by simpa using hlt) HF.out
                have eg : ((List.range p.ss.length).map (errS p.bs p.ss))[k]'(by simpa using hlt) = errS p.bs p.ss k := by simp
                rw [eg] at f1 f2
                have ER : Hid (errS p.bs p.ss k ≠ 0 → errP p = errS p.bs p.ss k) := Lib.hid fun h => hE3.out.trans (f1 h)
                have F2 := Lib.hid f2
                rw [hA] at y1
                have yl := heap_lt_cell y0
                have y0a := fun o => cell_al y0 yl o
                have y1a := fun o => cell_al y1 yl o
                have LA : ∀ V, Calls Tryd.prog 31 #[tv s.pack] V fun e w' => e = .returned (.bool (lab s.pack)) ∧ w' = V := fun V => rLabel_any s.pack V (hnp s hsm)
                have LA := Lib.hid LA
                have HSK := Lib.hid hsk
                have HPR := Lib.hid hpr
                have HA := Lib.hid hA
                have NB : ∀ o w', Below (wr.alloc o).heap.size (wr.alloc o) w' → Below W.heap.size W w' ∧ Below w.heap.size w w' := fun o w' h => by
                  have h1 := HB.out.trans (((bAl wr o).trans (h.mono (by simp))).mono HB.out.size)
                  exact ⟨h1, HB0.out.trans (h1.mono HB0.out.size)⟩
                have N0 := Lib.hid (fun o => NB o _ (Below.refl _ _))
                have NB := Lib.hid NB
                have hwl : IntKind.i64.wrap ((p.bs.length : Int) - 1) = (p.bs.length : Int) - 1 := IntWalk.i64_in _ (by omega)
                have W1 : ∀ V, Calls Tryd.prog 29 #[.int .i64 s.id, .int .i64 1, .int .i64 999999] V fun e w' => e = .returned (.bool (decide (1 ≤ s.id) && decide (s.id ≤ 999999))) ∧ w' = V := fun V => within_any s.id 1 999999 V
                have W2 : ∀ V, Calls Tryd.prog 29 #[.int .i64 s.block, .int .i64 0, .int .i64 ((p.bs.length : Int) - 1)] V fun e w' => e = .returned (.bool (decide (0 ≤ s.block) && decide (s.block ≤ (p.bs.length : Int) - 1))) ∧ w' = V := fun V => within_any s.block 0 _ V
                clear f1 f2 eg hsm hsk hpr hA hs'
                cases hlab : lab s.pack with
                | false =>
                  have E6 : Hid (errP p = 6) := Lib.hid (by
                    have : errS p.bs p.ss k = 6 := by unfold errS; rw [HSK.out]; simp only [hlab, if_true]
                    rw [ER.out (by rw [this]; decide), this])
                  rw [hlab] at LA
                  clear hlab W1 W2 hwl
                  go_wp2_with (go_at_call 31; refine (LA.out _).mono ?_; rintro e w3 ⟨rfl, rfl⟩)
                  go_ret
                  exact ⟨by rw [E6.out]; rfl, (N0.out _).2⟩
                | true =>
                  rw [hlab] at LA
                  have E2 : (s.id < 1 ∨ 999999 < s.id ∨ plainB p.bs s.block = false) → errP p = 2 := fun hbad => by
                    have : errS p.bs p.ss k = 2 := by unfold errS; rw [HSK.out]; simp only [hlab, Bool.true_eq_false, if_false, if_pos hbad]
                    rw [ER.out (by rw [this]; decide), this]
                  have E2 := Lib.hid E2
                  by_cases hb1 : 1 ≤ s.id ∧ s.id ≤ 999999
                  · have r1 : (decide (1 ≤ s.id) && decide (s.id ≤ 999999)) = true := by simp [hb1.1, hb1.2]
                    rw [r1] at W1
                    have W1 := Lib.hid W1
                    by_cases hb2 : 0 ≤ s.block ∧ s.block ≤ (p.bs.length : Int) - 1
                    · have r2 : (decide (0 ≤ s.block) && decide (s.block ≤ (p.bs.length : Int) - 1)) = true := by simp [hb2.1, hb2.2]
                      rw [r2] at W2
                      have W2 := Lib.hid W2
                      obtain ⟨m, hm⟩ : ∃ m : Nat, s.block = m := ⟨s.block.toNat, by omega⟩
                      have hml : m < p.bs.length := by omega
                      obtain ⟨ab, ab1, hbA, hab1, habb, d0, d1, d2⟩ := HPR.out.b.blk hml
                      obtain ⟨bk, hbk⟩ : ∃ bk, bk = p.bs[m] := ⟨_, rfl⟩
                      rw [← hbk] at d0 d1 d2
                      have hpl : plainB p.bs s.block = ((bk.cap == 0) && !bk.param) := by
                        unfold plainB
                        rw [hm, hbk]
                        simp [hml]
                      have e0 := fun o => cell_al d0 habb o
                      have e1' := fun o => cell_al d1 habb o
                      have e2' := fun o => cell_al d2 habb o
                      rw [hbA] at y0 y0a
                      have RPL : ∀ V, Calls Tryd.prog 32 #[.agg #[.int .i64 bk.cap, .bool bk.param, .slice bk.A bk.ins.length bk.c]] V fun e w' => e = .returned (.bool ((bk.cap == 0) && !bk.param)) ∧ Below V.heap.size V w' := fun V => rPlain_any bk V
                      rw [hm] at W2
                      have m1 : (0 : Int) ≤ (m : Int) := by omega
                      have m2 : (m : Int) < (p.bs.length : Int) := by omega
                      have m3 : ((m : Int)).toNat = m := by omega
                      rw [hm] at c2
                      have BOX : ∀ w', Below (wr.alloc (.cells #[.string ⟨s.pack.toArray⟩, .int .i64 s.id, .int .i64 m] 69)).heap.size (wr.alloc (.cells #[.string ⟨s.pack.toArray⟩, .int .i64 s.id, .int .i64 m] 69)) w' → w'.cell? ⟨wr.heap.size, 0, none⟩ = some (.string ⟨s.pack.toArray⟩) ∧ w'.cell? ⟨wr.heap.size, 1, none⟩ = some (.int .i64 s.id) ∧ w'.cell? ⟨wr.heap.size, 2, none⟩ = some (.int .i64 m) ∧ w'.cell? ⟨w.heap.size, 1, none⟩ = some (.slice (some a) p.ss.length p.sc) := fun w' h => by
                        have k3 := (h.block wr.heap.size (by simp)).trans (al_new wr _)
                        obtain ⟨_, k4, k5⟩ := ALL.out w' (NB.out _ _ h).1
                        rw [HA.out] at k5
                        exact ⟨by rw [Lib.cell_of_heap k3]; rfl, by rw [Lib.cell_of_heap k3]; rfl, by rw [Lib.cell_of_heap k3]; rfl, k5⟩
                      have BOX := Lib.hid BOX
                      clear d0 d1 d2 r1 r2 hbA
                      cases hpp : ((bk.cap == 0) && !bk.param) with
                      | false =>
                        have E3 := Lib.hid (E2.out (.inr (.inr (hpl.trans hpp))))
                        rw [hpp] at RPL
                        have RPL := Lib.hid RPL
                        clear hpl hpp hlab hb1 hb2 hm hbk
                        go_wp2_with (first | (go_at_call 31; refine (LA.out _).mono ?_; rintro e w3 ⟨rfl, rfl⟩) | (go_at_call 29; with_reducible refine (W1.out _).mono ?_; rintro e w3 ⟨rfl, rfl⟩) | (go_at_call 29; with_reducible refine (W2.out _).mono ?_; rintro e w3 ⟨rfl, rfl⟩) | (go_at_call 32; refine (RPL.out _).mono ?_; rintro e w4 ⟨rfl, b4⟩; have B4 := Lib.hid (NB.out _ _ b4); clear b4))
                        go_ret
                        exact ⟨by rw [E3.out]; rfl, B4.out.2⟩
                      | true =>
                        rw [hpp] at RPL
                        have RPL := Lib.hid RPL
                        have ES : Hid (errS p.bs p.ss k = ordS p.ss s k) := Lib.hid (by
                          unfold errS
                          rw [HSK.out]
                          have hbad : ¬ (s.id < 1 ∨ 999999 < s.id ∨ plainB p.bs s.block = false) := by
                            rw [hpl, hpp]
                            simp
                            omega
                          simp only [hlab, Bool.true_eq_false, if_false, if_neg hbad])
                        clear hpl hpp hlab hb1 hb2 hm hbk E2
                        go_wp2_with (first | (go_at_call 31; refine (LA.out _).mono ?_; rintro e w3 ⟨rfl, rfl⟩) | (go_at_call 29; with_reducible refine (W1.out _).mono ?_; rintro e w3 ⟨rfl, rfl⟩) | (go_at_call 29; with_reducible refine (W2.out _).mono ?_; rintro e w3 ⟨rfl, rfl⟩) | (go_at_call 32; refine (RPL.out _).mono ?_; rintro e w4 ⟨rfl, b4⟩; obtain ⟨q0, q1, q2, q4⟩ := BOX.out w4 b4; have B4 := Lib.hid (NB.out _ _ b4); clear b4))
                        by_cases hk0 : k = 0
                        · subst hk0
                          have F3 := Lib.hid (F2.out (by rw [ES.out]; rfl))
                          have D4 := Lib.hid (fun n => show Below W.heap.size W (w4.drewN n) from ⟨B4.out.1.os, B4.out.1.tape, B4.out.1.output, B4.out.1.size, B4.out.1.block⟩)
                          clear ES ER
                          go_quiet (fail)
                          go_wp2
                          exact ⟨⟨1, by omega, rfl, Lib.hid (D4.out _), F3⟩, by simp [intOf]; omega⟩
                        · obtain ⟨j, hkj⟩ : ∃ j, k = j + 1 := ⟨k - 1, by omega⟩
                          have hjl : j < p.ss.length := by omega
                          obtain ⟨a', e1, hA', he1, heb, v0, v1, v2⟩ := (ALL.out w4 B4.out.1).1.s.stt hjl
                          obtain rfl : a' = a := by have := HA.out; rw [hA'] at this; exact Option.some.inj this
                          obtain ⟨q, hq⟩ : ∃ q, q = p.ss[j] := ⟨_, rfl⟩
                          rw [← hq] at v0 v1 v2
                          have hqk : p.ss[j]? = some q := by rw [hq]; simp [hjl]
                          have eo : errS p.bs p.ss k = if nmLt q.pack q.id s.pack s.id then 0 else 10 := by
                            rw [ES.out, hkj, ordS_succ hqk]
                          have CMP : ∀ V, Calls Tryd.prog 33 #[.agg #[.string ⟨q.pack.toArray⟩, .int .i64 q.id], .agg #[.string ⟨s.pack.toArray⟩, .int .i64 s.id]] V fun e w' => e = .returned (.bool (nmLt q.pack q.id s.pack s.id)) ∧ Below V.heap.size V w' := fun V => less_any q.pack q.id s.pack s.id V
                          have EO := Lib.hid eo
                          have w1' : IntKind.i64.wrap ((k : Int) - 1) = (j : Int) := by rw [IntWalk.i64_in _ (by omega)]; omega
                          have w2' : (0 : Int) < (k : Int) := by omega
                          have w2n : 0 < k := by omega
                          have w3' : ((j : Int)).toNat = j := by omega
                          have w4' : (0 : Int) ≤ (j : Int) := by omega
                          have w5' : (j : Int) < (p.ss.length : Int) := by omega
                          have D4 := Lib.hid (fun n (w' : World) (h : Below (w4.drewN n).heap.size (w4.drewN n) w') => show Below W.heap.size W w' ∧ Below w.heap.size w w' from by
                            have h1 : Below W.heap.size W w' := B4.out.1.trans (Below.mono (⟨h.os, h.tape, h.output, h.size, h.block⟩ : Below w4.heap.size w4 w') B4.out.1.size)
                            exact ⟨h1, HB0.out.trans (h1.mono HB0.out.size)⟩)
                          generalize nmLt q.pack q.id s.pack s.id = LT at *
                          clear eo hqk hq hA' hkj ES
                          cases LT with
                          | true =>
                            have CMP := Lib.hid CMP
                            have F3 := Lib.hid (F2.out (by rw [EO.out]; rfl))
                            go_still_tail 12, (by kernel_rfl)
                            change wpList _ _ _ _ _ w4.drew
                            generalize hw5 : w4.drew = w5
                            have d5 : ∀ w', Below w5.heap.size w5 w' → Below W.heap.size W w' ∧ Below w.heap.size w w' := fun w' h => D4.out 1 w' (by subst hw5; exact h)
                            have D5 := Lib.hid d5
                            clear d5 hw5 D4
                            go_wp2_with (go_at_call 33; refine (CMP.out _).mono ?_; rintro e w6 ⟨rfl, b6⟩; have B6 := Lib.hid (D5.out _ b6); clear b6)
                            exact ⟨⟨k + 1, by omega, by simp, Lib.hid B6.out.1, F3⟩, by simp [intOf]; omega⟩
                          | false =>
                            have CMP := Lib.hid CMP
                            have E10 : Hid (errP p = 10) := Lib.hid (by rw [ER.out (by rw [EO.out]; decide), EO.out]; rfl)
                            go_still_tail 12, (by kernel_rfl)
                            change wpList _ _ _ _ _ w4.drew
                            generalize hw5 : w4.drew = w5
                            have d5 : ∀ w', Below w5.heap.size w5 w' → Below W.heap.size W w' ∧ Below w.heap.size w w' := fun w' h => D4.out 1 w' (by subst hw5; exact h)
                            have D5 := Lib.hid d5
                            clear d5 hw5 D4
                            go_wp2_with (go_at_call 33; refine (CMP.out _).mono ?_; rintro e w6 ⟨rfl, b6⟩; have B6 := Lib.hid (D5.out _ b6); clear b6)
                            go_ret
                            exact ⟨by rw [E10.out]; rfl, B6.out.2⟩
                    · have r2 : (decide (0 ≤ s.block) && decide (s.block ≤ (p.bs.length : Int) - 1)) = false := by
                        rcases Decidable.not_and_iff_not_or_not.1 hb2 with h | h
                        · simp [h]
                        · simp [h]
                      rw [r2] at W2
                      have W2 := Lib.hid W2
                      have E3 := Lib.hid (E2.out (.inr (.inr (by
                        unfold plainB
                        rcases Decidable.not_and_iff_not_or_not.1 hb2 with h | h
                        · simp [h]
                        · rw [List.getElem?_eq_none (show p.bs.length ≤ s.block.toNat by omega)]; simp))))
                      clear hb1 hb2 r1 r2 hlab
                      go_wp2_with (first | (go_at_call 31; refine (LA.out _).mono ?_; rintro e w3 ⟨rfl, rfl⟩) | (go_at_call 29; with_reducible refine (W1.out _).mono ?_; rintro e w3 ⟨rfl, rfl⟩) | (go_at_call 29; with_reducible refine (W2.out _).mono ?_; rintro e w3 ⟨rfl, rfl⟩))
                      go_ret
                      exact ⟨by rw [E3.out]; rfl, (N0.out _).2⟩
                  · have r1 : (decide (1 ≤ s.id) && decide (s.id ≤ 999999)) = false := by
                      rcases Decidable.not_and_iff_not_or_not.1 hb1 with h | h
                      · simp [h]
                      · simp [h]
                    rw [r1] at W1
                    have W1 := Lib.hid W1
                    have E3 := Lib.hid (E2.out (by omega))
                    clear hb1 r1 hlab W2
                    go_wp2_with (first | (go_at_call 31; refine (LA.out _).mono ?_; rintro e w3 ⟨rfl, rfl⟩) | (go_at_call 29; with_reducible refine (W1.out _).mono ?_; rintro e w3 ⟨rfl, rfl⟩))
                    go_ret
                    exact ⟨by rw [E3.out]; rfl, (N0.out _).2⟩
              · obtain rfl : k = p.ss.length := by omega
                have h0 := HF.out
                rw [List.take_of_length_le (by simp)] at h0
                obtain ⟨-, y0, y1⟩ := ALL.out _ HB.out
                have E0 : Hid (errP p = 0) := Lib.hid (by rw [hE3.out, h0])
                have HB1 := Lib.hid (HB0.out.trans (HB.out.mono HB0.out.size))
                clear h0
                go_wp2
                go_ret
                exact ⟨by rw [E0.out]; rfl, HB1.out⟩
end Go.Proofs.YtdfllhmkgphcmaaDoor
namespace Go.Proofs.YtdfllhmkgphcmaaDoor
open Go.RowKit

theorem set_comm (w : World) {p q : Addr} (h : p.block ≠ q.block) (u v : Value) : (w.setCell p u).setCell q v = (w.setCell q v).setCell p u := by
  unfold World.setCell
  congr 1
  apply Array.ext_getElem?
  intro i
  simp only [Array.getElem?_modify]
  by_cases h1 : p.block = i
  · have h2 : ¬ q.block = i := fun e => h (h1.trans e.symm)
    simp [h1, h2]
  · simp [h1]
/-- append, at a frame that is a letter. -/
theorem op_append {o : Oper} {a : Act} {w w' : World} {v' : Value} (hd : o.dst.isSome = true) (s x : Operand) (t : TypeId) (hop : o.op = Op.call { callee := Callee.builtin Builtin.append, args := #[s, x], argTypes := #[t, t] })
    (v v2 : Value) (hs : a.eval s = v) (hx : a.eval x = v2) (hrun : (Builtin.append_ #[t, t] o.type #[v, v2]).run Tryd.prog w = .ok v' w') : (execOp a.eval o).run Tryd.prog w = .ok (nx o v') w' := by
  unfold execOp nx
  simp only [hop, resolve, invoke, builtin, Sem.run_bind, Sem.run_pure, Result.andThen_ok, List.map_toArray, List.map_cons, List.map_nil, hs, hx, hrun]
  cases h : o.dst with
  | none => rw [h] at hd; cases hd
  | some t => rfl
theorem op_new {o : Oper} {a : Act} {w : World} {m : Nat} (hs : w.heap.size = m) (hd : o.dst.isSome = true) (ho : o.op = .buildSlice 33 1 #[(0, .const (.agg z8))]) : (execOp a.eval o).run Tryd.prog w = .ok (nx o (.slice (some ⟨m, 0, none⟩) 1 1)) (w.alloc (.cells z8 54)) := by
  subst hs
  rw [nx_some hd]
  obtain ⟨d, op, t, ps, af, gu⟩ := o
  simp only at ho
  subst ho
  go_simp
theorem st8_comm {w : World} {g o : Nat} {x : AV} {k j : Nat} (u : Value) (h : k ≠ g) : st8 (w.setCell ⟨k, j, none⟩ u) g o x = (st8 w g o x).setCell ⟨k, j, none⟩ u := by
  have c : ∀ (w : World) (i : Nat) (v : Value), (w.setCell ⟨k, j, none⟩ u).setCell ⟨g, i, none⟩ v = (w.setCell ⟨g, i, none⟩ v).setCell ⟨k, j, none⟩ u := fun w i v => set_comm w (by exact h) u v
  unfold st8
  rw [c, c, c, c, c, c, c, c]
theorem box8 (w : World) (x : AV) : ∀ i, i < 8 → (w.alloc (.cells #[iv x.kind, iv x.int, .slice x.A x.list.length x.c, iv x.block, eS, eS, nilS, nilS] 54)).cell? ⟨w.heap.size, 0 + i, none⟩ = x.cs[i]? := fun i _ => by
  rw [World.cell?_alloc_at (hn := rfl)]
  simp [AV.cs]

set_option maxRecDepth 100000 in
set_option maxHeartbeats 4000000 in
theorem push_any (b : Bl) (p : Prg) (x : AV) (w : World) (g : Gh) (steps seed : Int) (done : Bool) (err : Int) (hm : Mem b w g) (hR : RB b p w g.sv g.fv steps seed done err) (hx : LRd b.B g.tag w x.A x.c x.list) (hn : g.S.length ≤ 1000000) :
    Calls Tryd.prog 69 #[.pointer (some ⟨b.rb, 0, none⟩), x.v] w (PushP b p w g x steps seed done err) := by
  obtain ⟨n, hnn⟩ : ∃ n, n = g.S.length := ⟨_, rfl⟩
  obtain ⟨A, c, hsv⟩ : ∃ A c, g.sv = .slice A n c := by
    rcases hm.st.2 with ⟨e, h⟩ | ⟨g2, cap2, cur2, e, _⟩
    · exact ⟨none, 0, by rw [e, hnn, h]⟩
    · exact ⟨_, _, by rw [e, hnn]⟩
  obtain ⟨ob, hob⟩ : ∃ ob : Obj, ob = .cells #[iv x.kind, iv x.int, .slice x.A x.list.length x.c, iv x.block, eS, eS, nilS, nilS] 54 := ⟨_, rfl⟩
  have hX : ∃ v' w', (Builtin.append_ #[33, 33] 33 #[.slice A n c, .slice (some ⟨w.heap.size + 1, 0, none⟩) 1 1]).run Tryd.prog ((w.alloc ob).drew.alloc (.cells z8 54)) = .ok v' w' ∧ AppX b ((w.alloc ob).drew.alloc (.cells z8 54)) g n v' w' := by
    rw [← hsv]
    refine app_run ((hm.alloc _).drewN 1 |>.alloc _) (RB.alloc (hR.alloc ob : RB b p (w.alloc ob).drew _ _ _ _ _ _) _) hn _ ?_ _ n hnn
    have h1 := al_new (w.alloc ob).drew (.cells z8 54)
    have h2 : (w.alloc ob).drew.heap.size = w.heap.size + 1 := by show (w.alloc ob).heap.size = _; simp
    rw [h2] at h1
    exact h1
  obtain ⟨_, w2, HRUN, gg, c', rfl, hap⟩ := hX
  have fin : PushP b p w g x steps seed done err (.returned (.tuple #[])) ((st8 w2 gg (n * 8) x).setCell ⟨b.rb, 2, none⟩ (.slice (some ⟨gg, 0, none⟩) (n + 1) c')) :=
    PushP.mk hm hR hx (((grown_alloc _ _ _).trans (grown_drewN _ 1 _)).trans (grown_alloc _ _ _)) hap hnn
  have hsz := hR.lt
  have c2 := hR.c 2
  simp [rcs, hsv] at c2
  have FIN := Lib.hid fin
  have Q8 : ∀ i, i < 8 → (w2.cell? ⟨gg, n * 8 + i, none⟩).isSome = true := fun i hi => by rw [hap.cell i hi]; simp; omega
  have q8 := hap.fz
  have q10 := hap.rc
  rw [hsv] at q10
  have r2 : (st8 w2 gg (n * 8) x).cell? ⟨b.rb, 2, none⟩ = some (.slice A n c) := (World.cell?_of_block (w := w2) (st8_other _ _ _ _ _ hap.ne)).trans q10
  have r3 : (st8 w2 gg (n * 8) x).frozen? ⟨b.rb, 2, none⟩ = false := (World.frozen?_of_block (w := w2) (st8_other _ _ _ _ _ hap.ne)).trans hap.rf
  subst hob
  have BX0 := box8 w x
  have BX1 : ∀ i, i < 8 → ((w.alloc (.cells #[iv x.kind, iv x.int, .slice x.A x.list.length x.c, iv x.block, eS, eS, nilS, nilS] 54)).drew.alloc (.cells z8 54)).cell? ⟨w.heap.size, 0 + i, none⟩ = x.cs[i]? := fun i hi =>
    (World.cell?_of_block (w := w.alloc _) (Below.heap_alloc _ _ _ (by show w.heap.size < (w.alloc _).heap.size; simp))).trans (BX0 i hi)
  have d1 := fun o => cell_al c2 hsz o
  have d2 : ∀ o o', ((w.alloc o).drew.alloc o').cell? ⟨b.rb, 2, none⟩ = some (.slice A n c) := fun o o' => cell_al (w := (w.alloc o).drew) (d1 o) (by show b.rb < (w.alloc o).heap.size; simp; omega) o'
  have hnl : n ≤ 1000000 := by omega
  have q11 := hap.rf
  have hap1 := hap.ne
  have q9 : ∀ i, (w2.setCell ⟨b.rb, 2, none⟩ (.slice (some ⟨gg, 0, none⟩) (n + 1) c')).frozen? ⟨gg, i, none⟩ = false := fun i => (World.frozen?_of_block (w := w2) (Below.heap_setCell _ _ _ _ (Ne.symm hap1))).trans (q8 i)
  have Q9 : ∀ i, i < 8 → ((w2.setCell ⟨b.rb, 2, none⟩ (.slice (some ⟨gg, 0, none⟩) (n + 1) c')).cell? ⟨gg, n * 8 + i, none⟩).isSome = true := fun i hi => by rw [World.cell?_of_block (w := w2) (Below.heap_setCell _ _ _ _ (Ne.symm hap1))]; exact Q8 i hi
  clear hap fin hsv hnn hR hx hm hn
  unfold AV.v
  go_enter Tryd.func69, Tryd.ntmps69
  go_wp2
  refine wp_phase [false, false, false, false, false, false, false, true, true, false, true, false, false, false, true] [[], [7], [7, 8], [7, 8, 10], [7, 8, 14], [7, 8, 10, 14]] [.pointer (some ⟨b.rb, 0, none⟩), .pointer (some ⟨b.rb, 0, none⟩), .pointer (some ⟨b.rb, 0, none⟩), .pointer (some ⟨b.rb, 2, none⟩), .slice A n c, x.v, .int .i64 n, .slice (some ⟨w.heap.size + 1, 0, none⟩) 1 1, .slice (some ⟨gg, 0, none⟩) (n + 1) c', .pointer (some ⟨gg, n * 8, none⟩), undef, .pointer (some ⟨b.rb, 0, none⟩), .pointer (some ⟨b.rb, 0, none⟩), .pointer (some ⟨b.rb, 2, none⟩), undef] [_, ((w.alloc (.cells #[iv x.kind, iv x.int, .slice x.A x.list.length x.c, iv x.block, eS, eS, nilS, nilS] 54)).drew).alloc (.cells z8 54), w2, st8 w2 gg (n * 8) x, w2.setCell ⟨b.rb, 2, none⟩ (.slice (some ⟨gg, 0, none⟩) (n + 1) c'), (st8 w2 gg (n * 8) x).setCell ⟨b.rb, 2, none⟩ (.slice (some ⟨gg, 0, none⟩) (n + 1) c')] 5 ⟨#[.pointer (some ⟨b.rb, 0, none⟩), x.v, undef, .pointer (some ⟨w.heap.size, 0, none⟩), .pointer (some ⟨b.rb, 0, none⟩), .pointer (some ⟨b.rb, 0, none⟩), .pointer (some ⟨b.rb, 0, none⟩), .pointer (some ⟨b.rb, 2, none⟩), .slice A n c, x.v, .int .i64 n, .slice (some ⟨w.heap.size + 1, 0, none⟩) 1 1, .slice (some ⟨gg, 0, none⟩) (n + 1) c', .pointer (some ⟨gg, n * 8, none⟩), .pointer (some ⟨b.rb, 0, none⟩), .pointer (some ⟨b.rb, 0, none⟩), .pointer (some ⟨b.rb, 2, none⟩)], []⟩ (by kernel_rfl) (by kernel_rfl) (by kernel_rfl) (by kernel_rfl) rfl (by kernel_rfl) (by kernel_rfl) rfl rfl ⟨?_, ?_, ?_, ?_, ?_, ?_, ?_, ?_, ?_, ?_, ?_, ?_, ?_, ?_, ?_, trivial⟩ rfl ?_
  · intro k a hk E
    have h0 : a.eval (.tmp 0) = .pointer (some ⟨b.rb, 0, none⟩) := (E 0 (by kernel_rfl)).trans (by kernel_rfl)
    exact obl_pure (by kernel_rfl) rfl hk fun w => op_move rfl rfl h0
  · intro k a hk E
    have h4 : a.eval (.tmp 4) = .pointer (some ⟨b.rb, 0, none⟩) := (E 4 (by kernel_rfl)).trans (by kernel_rfl)
    exact obl_pure (by kernel_rfl) rfl hk fun w => op_nil rfl rfl h4
  · intro k a hk E
    have h5 : a.eval (.tmp 5) = .pointer (some ⟨b.rb, 0, none⟩) := (E 5 (by kernel_rfl)).trans (by kernel_rfl)
    exact obl_pure (by kernel_rfl) rfl hk fun w => op_fa (k := 0) rfl rfl rfl h5
  · intro k a hk E
    have h6 : a.eval (.tmp 6) = .pointer (some ⟨b.rb, 0, none⟩) := (E 6 (by kernel_rfl)).trans (by kernel_rfl)
    exact obl_pure (by kernel_rfl) rfl hk fun w => op_fa (k := 2) rfl rfl rfl h6
  · intro k a hk E
    have h7 : a.eval (.tmp 7) = .pointer (some ⟨b.rb, 2, none⟩) := (E 7 (by kernel_rfl)).trans (by kernel_rfl)
    refine obl_read (ks := [0, 1]) (by kernel_rfl) (by kernel_rfl) rfl hk ⟨?_, ?_, trivial⟩
    · intro w' hw; cases hw; exact op_load1 rfl (by decide) rfl h7 (d1 _)
    · intro w' hw; cases hw; exact op_load1 rfl (by decide) rfl h7 (d2 _ _)
  · intro k a hk E
    have h3 : a.eval (.tmp 3) = .pointer (some ⟨w.heap.size, 0, none⟩) := (E 3 (by kernel_rfl)).trans (by kernel_rfl)
    refine obl_read (ks := [0, 1]) (by kernel_rfl) (by kernel_rfl) rfl hk ⟨?_, ?_, trivial⟩
    · intro w' hw; cases hw; exact op_load54 (vs := x.cs) rfl rfl rfl h3 BX0
    · intro w' hw; cases hw; exact op_load54 (vs := x.cs) rfl rfl rfl h3 BX1
  · intro k a hk E
    have h8 : a.eval (.tmp 8) = .slice A n c := (E 8 (by kernel_rfl)).trans (by kernel_rfl)
    exact obl_pure (by kernel_rfl) rfl hk fun w => op_len rfl (by decide) rfl h8
  · intro k a hk E
    exact obl_write (ks := [0]) (by kernel_rfl) (by kernel_rfl) hk ⟨⟨1, _, _, by kernel_rfl, rfl, rfl, op_new (by show (w.alloc _).heap.size = _; simp) rfl rfl⟩, trivial⟩
  · intro k a hk E
    have h8 : a.eval (.tmp 8) = .slice A n c := (E 8 (by kernel_rfl)).trans (by kernel_rfl)
    have h11 : a.eval (.tmp 11) = .slice (some ⟨w.heap.size + 1, 0, none⟩) 1 1 := (E 11 (by kernel_rfl)).trans (by kernel_rfl)
    exact obl_write (ks := [1]) (by kernel_rfl) (by kernel_rfl) hk ⟨⟨2, _, _, by kernel_rfl, rfl, rfl, op_append rfl (.tmp 8) (.tmp 11) 33 rfl _ _ h8 h11 HRUN⟩, trivial⟩
  · intro k a hk E
    have h12 : a.eval (.tmp 12) = .slice (some ⟨gg, 0, none⟩) (n + 1) c' := (E 12 (by kernel_rfl)).trans (by kernel_rfl)
    have h10 : a.eval (.tmp 10) = .int .i64 n := (E 10 (by kernel_rfl)).trans (by kernel_rfl)
    exact obl_pure (by kernel_rfl) rfl hk fun w => op_index (sz := 8) (f := 0) (k := n) (Nat.zero_add _) rfl (by decide) rfl h12 h10 rfl (by omega)
  · intro k a hk E
    have h13 : a.eval (.tmp 13) = .pointer (some ⟨gg, n * 8, none⟩) := (E 13 (by kernel_rfl)).trans (by kernel_rfl)
    have h9 : a.eval (.tmp 9) = x.v := (E 9 (by kernel_rfl)).trans (by kernel_rfl)
    exact obl_write (ks := [2, 4]) (by kernel_rfl) (by kernel_rfl) hk ⟨⟨3, _, _, by kernel_rfl, rfl, rfl, op_st8 rfl rfl h13 h9 Q8 q8⟩, ⟨5, _, _, by kernel_rfl, rfl, rfl, (op_st8 rfl rfl h13 h9 Q9 q9).trans (by rw [st8_comm _ hap1]; rfl)⟩, trivial⟩
  · intro k a hk E
    have h4 : a.eval (.tmp 4) = .pointer (some ⟨b.rb, 0, none⟩) := (E 4 (by kernel_rfl)).trans (by kernel_rfl)
    exact obl_pure (by kernel_rfl) rfl hk fun w => op_nil rfl rfl h4
  · intro k a hk E
    have h14 : a.eval (.tmp 14) = .pointer (some ⟨b.rb, 0, none⟩) := (E 14 (by kernel_rfl)).trans (by kernel_rfl)
    exact obl_pure (by kernel_rfl) rfl hk fun w => op_fa (k := 0) rfl rfl rfl h14
  · intro k a hk E
    have h15 : a.eval (.tmp 15) = .pointer (some ⟨b.rb, 0, none⟩) := (E 15 (by kernel_rfl)).trans (by kernel_rfl)
    exact obl_pure (by kernel_rfl) rfl hk fun w => op_fa (k := 2) rfl rfl rfl h15
  · intro k a hk E
    have h16 : a.eval (.tmp 16) = .pointer (some ⟨b.rb, 2, none⟩) := (E 16 (by kernel_rfl)).trans (by kernel_rfl)
    have h12 : a.eval (.tmp 12) = .slice (some ⟨gg, 0, none⟩) (n + 1) c' := (E 12 (by kernel_rfl)).trans (by kernel_rfl)
    exact obl_write (ks := [2, 3]) (by kernel_rfl) (by kernel_rfl) hk ⟨⟨4, _, _, by kernel_rfl, rfl, rfl, op_store1 rfl (by decide) rfl h16 h12 q10 q11 (.inl ⟨_, _, _, rfl⟩)⟩, ⟨5, _, _, by kernel_rfl, rfl, rfl, op_store1 rfl (by decide) rfl h16 h12 r2 r3 (.inl ⟨_, _, _, rfl⟩)⟩, trivial⟩
  go_wp2
  refine bodyPost_ret (v := .tuple #[]) (results_none rfl _ _ _) rfl FIN.out
end Go.Proofs.YtdfllhmkgphcmaaDoor
namespace Go.Proofs.YtdfllhmkgphcmaaDoor
open Go.RowKit

theorem Mem.sform {b : Bl} {w : World} {g : Gh} (h : Mem b w g) : (g.sv = .slice none 0 0 ∧ g.S = []) ∨ ∃ gg c, g.sv = .slice (some ⟨gg, 0, none⟩) g.S.length c ∧ g.S.length ≤ c ∧ gg < w.heap.size ∧ ∀ (j : Nat) x, g.S[j]? = some x → ∀ i, i < 8 → w.cell? ⟨gg, j * 8 + i, none⟩ = x.cs[i]? := by
  rcases h.st.2 with ⟨h1, h2⟩ | ⟨gg, cap, cur, e, _, hg, hnc, _⟩
  · exact .inl ⟨h1, List.eq_nil_of_length_eq_zero h2⟩
  · refine .inr ⟨gg, cap, e, hnc, heap_lt hg, fun j x hj i hi => ?_⟩
    have hst := h.st
    rw [e] at hst
    have hlt : j < g.S.length := by
      rcases Nat.lt_or_ge j g.S.length with h' | h'
      · exact h'
      · rw [List.getElem?_eq_none h'] at hj; cases hj
    rw [World.ownsRow.cellAt hst _ (by omega)]
    have key : ∀ (L : List AV) (j : Nat), L[j]? = some x → (L.flatMap AV.cs)[j * 8 + i]? = x.cs[i]? := by
      intro L
      induction L with
      | nil => intro j hj; simp at hj
      | cons y L ih =>
        intro j hj
        cases j with
        | zero =>
          simp at hj
          subst hj
          simp only [List.flatMap_cons, Nat.zero_mul, Nat.zero_add]
          rw [List.getElem?_append_left (by rw [AV.cs_len]; exact hi)]
        | succ j =>
          simp only [List.flatMap_cons]
          rw [List.getElem?_append_right (by rw [AV.cs_len]; omega), AV.cs_len, show (j + 1) * 8 + i - 8 = j * 8 + i by omega]
          exact ih j (by simpa using hj)
    exact key g.S j hj
/-- The last value falls off. -/
theorem Mem.cut {b : Bl} {w : World} {g : Gh} (h : Mem b w g) {S : List AV} {x : AV} (hS : g.S = S ++ [x]) {gg c : Nat} (hv : g.sv = .slice (some ⟨gg, 0, none⟩) g.S.length c) : Mem b w { g with S := S, sv := .slice (some ⟨gg, 0, none⟩) (g.S.length - 1) c } := by
  refine { h with st := ?_, stt := fun k e => h.stt k (by rw [hv]; exact e), sr := fun y hy => h.sr y (by rw [hS]; exact List.mem_append_left _ hy) }
  have h1 := h.st
  rw [hv] at h1
  rcases h1.2 with ⟨e, _⟩ | ⟨g2, cap, cur, e, hb, hg, hnc, hm, hcs, ht⟩
  · cases e
  · simp only [Value.slice.injEq, Option.some.injEq, Addr.mk.injEq, and_true, true_and] at e
    obtain ⟨rfl, rfl⟩ := e
    have hl : g.S.length = S.length + 1 := by rw [hS]; simp
    have hl2 : g.S.length - 1 = S.length := by omega
    refine ⟨by simp only [flat8], .inr ⟨gg, c, cur, by simp only [hl2], hb, hg, by simp only []; omega, hm, hcs, ?_⟩⟩
    simp only []
    have e2 : g.S.flatMap AV.cs = S.flatMap AV.cs ++ x.cs := by rw [hS]; simp
    rw [e2] at ht
    have e3 := congrArg (List.take (S.length * 8)) ht
    rw [List.take_take, Nat.min_eq_left (by omega), List.take_append_of_le_length (by rw [flat8]; exact Nat.le_refl _)] at e3
    rw [e3, List.take_of_length_le (by rw [flat8]; exact Nat.le_refl _)]
theorem results_cell1' {fn : Func} {p : Tmp} {ty : TypeId} (h : fn.results = #[.cell p ty]) (tmps : Array Value) (P : Program) (w : World) :
    (results fn tmps).run P w = ((asAddr (tmps.getD p undef)).run P w).andThen fun a w₁ => (loadVar ty a).run P w₁ := by
  simp only [results, h]
  simp [Sem.run_bind]
theorem results_av {fn : Func} {p : Tmp} (h : fn.results = #[.cell p 54]) (tmps : Array Value) (w : World) (g : Nat) (x : AV) (hp : tmps.getD p undef = .pointer (some ⟨g, 0, none⟩)) (hc : ∀ i, i < 8 → w.cell? ⟨g, 0 + i, none⟩ = x.cs[i]?) : (results fn tmps).run Tryd.prog w = .ok x.v w := by
  have q0 := hc 0 (by omega)
  have q1 := hc 1 (by omega)
  have q2 := hc 2 (by omega)
  have q3 := hc 3 (by omega)
  have q4 := hc 4 (by omega)
  have q5 := hc 5 (by omega)
  have q6 := hc 6 (by omega)
  have q7 := hc 7 (by omega)
  simp [AV.cs] at q0 q1 q2 q3 q4 q5 q6 q7
  clear hc
  rw [results_cell1' h, hp]
  unfold AV.v
  simp [go_sem, loadVar, q0, q1, q2, q3, q4, q5, q6, q7]
theorem st8_cells {w : World} {g o : Nat} {x : AV} {cur : Array Value} {e : TypeId} {fz : Nat × Nat} (h : w.heap[g]? = some (.cells cur e fz)) (hs : o + 8 ≤ cur.size) (i : Nat) (hi : i < 8) : (st8 w g o x).cell? ⟨g, o + i, none⟩ = x.cs[i]? := by
  simp only [World.cell?, st8_heap h]
  have : i = 0 ∨ i = 1 ∨ i = 2 ∨ i = 3 ∨ i = 4 ∨ i = 5 ∨ i = 6 ∨ i = 7 := by omega
  rcases this with rfl | rfl | rfl | rfl | rfl | rfl | rfl | rfl <;> simp [Array.getElem?_setIfInBounds, AV.cs] <;> omega
/-- What a pop leaves. -/
def PopM (b : Bl) (p : Prg) (w : World) (g : Gh) (S : List AV) (v : Value) (steps seed : Int) (done : Bool) (err : Int) (e : Ending) (w' : World) : Prop :=
  e = .returned v ∧ w.grownBy w' (some b.rb) ∧ ∃ sv', RB b p w' sv' g.fv steps seed done err ∧ Mem b w' { g with S := S, sv := sv' }
/-- What a fault leaves: all as it was, besides the runner's own block. -/
def Flt (b : Bl) (p : Prg) (w : World) (steps : Int) (done : Bool) (err : Int) (c : Int) (e : Ending) (w' : World) : Prop :=
  e = .panicked (stopC c) ∧ w.grownBy w' (some b.rb) ∧ ∃ sv' fv' seed', RB b p w' sv' fv' steps seed' done err
theorem grown_weak {w w' : World} (h : w.grownBy w' none) (row : Option Nat) : w.grownBy w' row := ⟨h.os, h.tape, h.output, h.size, fun k hk _ => h.block k hk (by simp)⟩
theorem pop_mem (b : Bl) (p : Prg) (w : World) (g : Gh) (S : List AV) (x : AV) (steps seed : Int) (done : Bool) (err : Int) (hm : Mem b w g) (hR : RB b p w g.sv g.fv steps seed done err) (hS : g.S = S ++ [x]) (hn : g.S.length ≤ 1000000) :
    Calls Tryd.prog 86 #[.pointer (some ⟨b.rb, 0, none⟩)] w (PopM b p w g S x.v steps seed done err) := by
  rcases hm.sform with ⟨_, h⟩ | ⟨gg, c, e, hnc, hlt, hc⟩
  · rw [h] at hS; simp at hS
  · have hl : g.S.length = S.length + 1 := by rw [hS]; simp
    refine (pop_some b p gg g.S.length c g.fv steps seed done err x w (by omega) hn hnc hlt (by rw [← e]; exact hR) fun i hi => ?_).mono ?_
    · rw [hl, Nat.add_sub_cancel]
      exact hc S.length x (by rw [hS]; simp) i hi
    · rintro e' w' ⟨rfl, h1, h2⟩
      exact ⟨rfl, h1, _, h2, (hm.cut hS e).only h1 hR⟩
theorem pop_flt (b : Bl) (p : Prg) (w : World) (g : Gh) (steps seed : Int) (done : Bool) (err : Int) (hm : Mem b w g) (hR : RB b p w g.sv g.fv steps seed done err) (hS : g.S = []) :
    Calls Tryd.prog 86 #[.pointer (some ⟨b.rb, 0, none⟩)] w (Flt b p w steps done err 26) := by
  have : ∃ A c, g.sv = .slice A 0 c := by
    rcases hm.sform with ⟨h, _⟩ | ⟨gg, c, e, _⟩
    · exact ⟨_, _, h⟩
    · rw [hS] at e; exact ⟨_, _, e⟩
  obtain ⟨A, c, e⟩ := this
  have hR' := hR
  rw [e] at hR'
  refine (pop_none b p A c g.fv steps seed done err w hR').mono ?_
  rintro e' w' ⟨rfl, h1⟩
  exact ⟨rfl, grown_weak h1 _, _, _, _, hR.keep (h1.block _ hR.lt (by simp))⟩

set_option maxRecDepth 100000 in
theorem popK_none (b : Bl) (p : Prg) (w : World) (g : Gh) (k steps seed : Int) (done : Bool) (err : Int) (hm : Mem b w g) (hR : RB b p w g.sv g.fv steps seed done err) (hS : g.S = []) :
    Calls Tryd.prog 79 #[.pointer (some ⟨b.rb, 0, none⟩), iv k] w (Flt b p w steps done err 26) := by
  have C1 : ∀ o, Calls Tryd.prog 86 #[.pointer (some ⟨b.rb, 0, none⟩)] (w.alloc o) (Flt b p (w.alloc o) steps done err 26) := fun o => pop_flt b p (w.alloc o) g steps seed done err (hm.alloc o) (hR.alloc o) hS
  have H1 := Lib.hid C1
  have fin : ∀ o w', (w.alloc o).grownBy w' (some b.rb) → (∃ sv' fv' seed', RB b p w' sv' fv' steps seed' done err) → Flt b p w steps done err 26 (.panicked (stopC 26)) w' := fun o w' h1 h2 => ⟨rfl, (grown_alloc w o _).trans h1, h2⟩
  have FIN := Lib.hid fin
  clear C1 fin hm hR hS
  go_enter Tryd.func79, Tryd.ntmps79
  go_wp2_with (go_at_call 86; refine (H1.out _).mono ?_; rintro e w1 ⟨rfl, k1, k2⟩)
  exact ⟨rfl, FIN.out _ _ k1 k2⟩
theorem av_box (w : World) (x : AV) (n : Nat) (hn : n = w.heap.size) : (w.alloc (.cells #[iv x.kind, iv x.int, .slice x.A x.list.length x.c, iv x.block, eS, eS, nilS, nilS] 54)).cell? ⟨n, 0, none⟩ = some (iv x.kind) := by
  subst hn
  exact box8 w x 0 (by omega)
theorem Mem.st8box {b : Bl} {w : World} {g : Gh} (h : Mem b w g) {k : Nat} (hk : b.B ≤ k) (ht : g.tag k = .no) (o : Nat) (x : AV) : Mem b (st8 w k o x) g := by
  have e0 := st8_os w k o x
  refine h.keep e0.1 e0.2.1 e0.2.2 (by rw [st8_size]; exact Nat.le_refl _) w.heap.size (by intro h; omega) fun i hi _ hr => st8_other _ _ _ _ _ fun e => ?_
  subst e
  rcases hr with hr | hr
  · omega
  · exact hr ht
def PopM2 (b : Bl) (p : Prg) (w : World) (g : Gh) (S : List AV) (steps seed : Int) (done : Bool) (err : Int) (w' : World) : Prop := w.grownBy w' (some b.rb) ∧ ∃ sv', RB b p w' sv' g.fv steps seed done err ∧ Mem b w' { g with S := S, sv := sv' }
set_option maxRecDepth 100000 in
set_option maxHeartbeats 1000000 in
theorem popK_bad (b : Bl) (p : Prg) (w : World) (g : Gh) (S : List AV) (x : AV) (k steps seed : Int) (done : Bool) (err : Int) (hm : Mem b w g) (hR : RB b p w g.sv g.fv steps seed done err) (hS : g.S = S ++ [x]) (hn : g.S.length ≤ 1000000) (hk : x.kind ≠ k) :
    Calls Tryd.prog 79 #[.pointer (some ⟨b.rb, 0, none⟩), iv k] w (Flt b p w steps done err 26) := by
  have C1 : ∀ o, Calls Tryd.prog 86 #[.pointer (some ⟨b.rb, 0, none⟩)] (w.alloc o) fun e w' => e = .returned x.v ∧ PopM2 b p (w.alloc o) g S steps seed done err w' := fun o => pop_mem b p (w.alloc o) g S x steps seed done err (hm.alloc o) (hR.alloc o) hS hn
  have H1 := Lib.hid C1
  have FA := fun W => fault_any 26 W
  have HFA := Lib.hid FA
  have hlt := hR.lt
  have fin : ∀ o o' w', PopM2 b p (w.alloc o) g S steps seed done err w' → Flt b p w steps done err 26 (.panicked (stopC 26)) (w'.alloc o') := fun o o' w' ⟨h1, sv', h2, _⟩ =>
    ⟨rfl, ((grown_alloc w o _).trans h1).trans (grown_alloc w' o' _), _, _, _, h2.alloc o'⟩
  have FIN := Lib.hid fin
  have ek : (x.kind != k) = true := by simpa using hk
  clear C1 fin hm hR hS FA hn hlt
  unfold AV.v at H1
  generalize x.kind = X0 at *
  generalize x.int = X1 at *
  generalize x.A = X2 at *
  generalize x.list.length = X3 at *
  generalize x.c = X4 at *
  generalize x.block = X5 at *
  go_enter Tryd.func79, Tryd.ntmps79
  go_wp2_with (first | (go_at_call 86; refine (H1.out _).mono ?_; rintro e w1 ⟨rfl, k1⟩; have K1 := Lib.hid k1; clear k1) | (go_at_call 58; refine (HFA.out _).mono ?_; rintro e w2 ⟨rfl, rfl⟩))
  exact ⟨rfl, FIN.out _ _ _ K1.out⟩
set_option maxRecDepth 100000 in
set_option maxHeartbeats 1000000 in
theorem popK_ok (b : Bl) (p : Prg) (w : World) (g : Gh) (S : List AV) (x : AV) (steps seed : Int) (done : Bool) (err : Int) (hm : Mem b w g) (hR : RB b p w g.sv g.fv steps seed done err) (hS : g.S = S ++ [x]) (hn : g.S.length ≤ 1000000) :
    Calls Tryd.prog 79 #[.pointer (some ⟨b.rb, 0, none⟩), iv x.kind] w (PopM b p w g S x.v steps seed done err) := by
  have C1 : ∀ o, Calls Tryd.prog 86 #[.pointer (some ⟨b.rb, 0, none⟩)] (w.alloc o) fun e w' => e = .returned x.v ∧ PopM2 b p (w.alloc o) g S steps seed done err w' ∧ w.heap.size < w'.heap.size := fun o => (pop_mem b p (w.alloc o) g S x steps seed done err (hm.alloc o) (hR.alloc o) hS hn).mono fun e w' ⟨h1, h2⟩ => ⟨h1, h2, by have := h2.1.size; simp at this; omega⟩
  have H1 := Lib.hid C1
  have hrb := hR.lt
  have box0 : ∀ o w', PopM2 b p (w.alloc o) g S steps seed done err w' → w'.heap[w.heap.size]? = some o := fun o w' h => by
    rw [h.1.block w.heap.size (by simp) (by intro e; have : w.heap.size = b.rb := Option.some.inj e; omega)]
    exact al_new w o
  have BOX := Lib.hid box0
  have fin : ∀ o o' w', PopM2 b p (w.alloc o) g S steps seed done err w' → PopM b p w g S x.v steps seed done err (.returned x.v) ((st8 w' w.heap.size 0 x).alloc o') := fun o o' w' ⟨h1, sv', h2, h3⟩ => by
    have hB := hm.hs
    have ht : g.tag w.heap.size = .no := hm.new _ (Nat.le_refl _)
    have e0 := st8_os w' w.heap.size 0 x
    have k1 : w.grownBy (st8 w' w.heap.size 0 x) (some b.rb) := by
      have q1 := (grown_alloc w o (some b.rb)).trans h1
      exact ⟨e0.1.trans q1.os, e0.2.1.trans q1.tape, e0.2.2.trans q1.output, by rw [st8_size]; exact q1.size, fun i hi hne => (st8_other _ _ _ _ _ (by omega)).trans (q1.block i hi hne)⟩
    exact ⟨rfl, k1.trans (grown_alloc _ o' _), sv', RB.alloc (h2.keep (st8_other _ _ _ _ _ (by omega))) o', (h3.st8box hB ht _ _).alloc o'⟩
  have FIN := Lib.hid fin
  clear C1 fin hm hR hS hn hrb box0
  have RES := Lib.hid (fun (w1 : World) (o' : Obj) (h : w1.heap[w.heap.size]? = some (.cells #[.int .i64 0, .int .i64 0, .slice none 0 0, .int .i64 0, .string ⟨#[]⟩, .string ⟨#[]⟩, .slice none 0 0, .slice none 0 0] 54)) (tmps : Array Value) (hp : tmps.getD 4 undef = .pointer (some ⟨w.heap.size, 0, none⟩)) =>
    results_av (fn := Tryd.f79) Tryd.results79 tmps ((st8 w1 w.heap.size 0 x).alloc o') w.heap.size x hp fun i hi => (World.cell?_of_block (w := st8 w1 w.heap.size 0 x) (Below.heap_alloc _ _ _ (by rw [st8_size]; exact heap_lt h))).trans (st8_cells h (by simp) i hi))
  unfold AV.v at H1 FIN RES
  unfold st8 at FIN RES
  unfold AV.v
  generalize x.kind = X0 at *
  generalize x.int = X1 at *
  generalize x.A = X2 at *
  generalize x.list.length = X3 at *
  generalize x.c = X4 at *
  generalize x.block = X5 at *
  go_enter Tryd.func79, Tryd.ntmps79
  go_wp2_with (go_at_call 86; refine (H1.out _).mono ?_; rintro e w1 ⟨rfl, k1, ks⟩; have kb := BOX.out _ _ k1; have K1 := Lib.hid k1; clear k1; have c0 := Lib.cell_of_heap kb 0; have c1 := Lib.cell_of_heap kb 1; have c2 := Lib.cell_of_heap kb 2; have c3 := Lib.cell_of_heap kb 3; have c4 := Lib.cell_of_heap kb 4; have c5 := Lib.cell_of_heap kb 5; have c6 := Lib.cell_of_heap kb 6; have c7 := Lib.cell_of_heap kb 7; simp at c0 c1 c2 c3 c4 c5 c6 c7; have f0 := fun j => Lib.frozen_of_heap kb j; have KB := Lib.hid kb; clear kb)
  refine bodyPost_ret (v := .agg #[iv X0, iv X1, .slice X2 X3 X4, iv X5, eS, eS, nilS, nilS]) (RES.out _ _ KB.out _ rfl) rfl (FIN.out _ _ _ K1.out)
end Go.Proofs.YtdfllhmkgphcmaaDoor
namespace Go.Proofs.YtdfllhmkgphcmaaDoor
open Go.RowKit

/-- What the function of an instruction leaves. -/
def EffP (b : Bl) (p : Prg) (w : World) (g : Gh) (R : Except Int MS) (steps err : Int) (e : Ending) (w' : World) : Prop :=
  match R with
  | .error c => Flt b p w steps false err c e w'
  | .ok s => e = .returned (.tuple #[]) ∧ ∃ g', Mem b w' g' ∧ Ch w g w' g' ∧ RB b p w' g'.sv g'.fv steps s.seed s.done err ∧ ers g'.S = s.S ∧ g'.F.map Fr.er = s.F
theorem EffP.push {b : Bl} {p : Prg} {w w1 : World} {g g1 : Gh} {x : AV} {steps seed err : Int} {e : Ending} {w' : World} {R : Except Int MS} (h : PushP b p w1 g1 x steps seed false err e w') (hc : Ch w g w1 g1) (hR : R = .ok ⟨ers g1.S ++ [x.er], g1.F.map Fr.er, seed, false⟩) : EffP b p w g R steps err e w' := by
  subst hR
  obtain ⟨rfl, g', h1, h2, h3, h4, h5, h6, h7⟩ := h
  exact ⟨rfl, g', h1, hc.trans h2, h7, by simp [h3], by simp [h4]⟩
/-- The instruction as a value. -/
def Ins.val (x : Ins) : Value := .agg #[iv x.op, iv x.a, iv x.b, tv x.name]
def AV.num (k i : Int) : AV := .mk k i none 0 0 []
theorem AV.num_er (k i : Int) : (AV.num k i).er = .mk k i 0 [] := by simp [AV.num, AV.er]
abbrev vec (k i : Int) : Value := .agg #[.int .i64 k, .int .i64 i, .slice none 0 0, .int .i64 0, .string ⟨#[]⟩, .string ⟨#[]⟩, .slice none 0 0, .slice none 0 0]
theorem push_num (b : Bl) (p : Prg) (k i : Int) (w : World) (g : Gh) (steps seed : Int) (done : Bool) (err : Int) (hm : Mem b w g) (hR : RB b p w g.sv g.fv steps seed done err) (hn : g.S.length ≤ 1000000) :
    Calls Tryd.prog 69 #[.pointer (some ⟨b.rb, 0, none⟩), vec k i] w (PushP b p w g (AV.num k i) steps seed done err) :=
  push_any b p (AV.num k i) w g steps seed done err hm hR (LRd.nil _ _ _) hn
theorem tb_cell {b : Bl} {w : World} {g : Gh} (h : Mem b w g) : w.cell? ⟨b.tb, 0, none⟩ = some (.pointer (some ⟨b.rb, 0, none⟩)) := by simp [World.cell?, h.to]
theorem tb_cell' {b : Bl} {w : World} {g : Gh} (h : Mem b w g) (o : Obj) : (w.alloc o).cell? ⟨b.tb, 0, none⟩ = some (.pointer (some ⟨b.rb, 0, none⟩)) := tb_cell (h.alloc o)

set_option maxRecDepth 100000 in
theorem eff_int (b : Bl) (p : Prg) (x : Ins) (w : World) (g : Gh) (steps seed err : Int) (hm : Mem b w g) (hR : RB b p w g.sv g.fv steps seed false err) (hn : g.S.length ≤ 1000000) :
    Calls Tryd.prog 68 #[x.val, .pointer (some ⟨b.tb, 0, none⟩)] w (EffP b p w g (.ok ⟨ers g.S ++ [.mk 1 x.a 0 []], g.F.map Fr.er, seed, false⟩) steps err) := by
  have C1 : ∀ o, Calls Tryd.prog 69 #[.pointer (some ⟨b.rb, 0, none⟩), vec 1 x.a] (w.alloc o) (EffP b p w g (.ok ⟨ers g.S ++ [.mk 1 x.a 0 []], g.F.map Fr.er, seed, false⟩) steps err) := fun o =>
    (push_num b p 1 x.a (w.alloc o) g steps seed false err (hm.alloc o) (hR.alloc o) hn).mono fun e w' h => EffP.push h (Ch.grown (grown_alloc w o _)) (by rw [AV.num_er])
  have H1 := Lib.hid C1
  have ct := fun o => tb_cell' hm o
  clear C1 hm hR hn
  unfold Ins.val
  go_enter Tryd.func68, Tryd.ntmps68
  go_wp2_with (go_at_call 69; refine (H1.out _).mono ?_; intro e w1 k1; obtain ⟨rfl, k2⟩ := id k1; have K1 := Lib.hid k1; clear k1 k2)
  exact bodyPost_ret (v := .tuple #[]) (results_none rfl _ _ _) rfl K1.out

set_option maxRecDepth 100000 in
theorem eff_bool (b : Bl) (p : Prg) (x : Ins) (w : World) (g : Gh) (steps seed err : Int) (hm : Mem b w g) (hR : RB b p w g.sv g.fv steps seed false err) (hn : g.S.length ≤ 1000000) :
    Calls Tryd.prog 70 #[x.val, .pointer (some ⟨b.tb, 0, none⟩)] w (EffP b p w g (.ok ⟨ers g.S ++ [.mk 2 x.a 0 []], g.F.map Fr.er, seed, false⟩) steps err) := by
  have C1 : ∀ o, Calls Tryd.prog 69 #[.pointer (some ⟨b.rb, 0, none⟩), vec 2 x.a] (w.alloc o) (EffP b p w g (.ok ⟨ers g.S ++ [.mk 2 x.a 0 []], g.F.map Fr.er, seed, false⟩) steps err) := fun o =>
    (push_num b p 2 x.a (w.alloc o) g steps seed false err (hm.alloc o) (hR.alloc o) hn).mono fun e w' h => EffP.push h (Ch.grown (grown_alloc w o _)) (by rw [AV.num_er])
  have H1 := Lib.hid C1
  have ct := fun o => tb_cell' hm o
  clear C1 hm hR hn
  unfold Ins.val
  go_enter Tryd.func70, Tryd.ntmps70
  go_wp2_with (go_at_call 69; refine (H1.out _).mono ?_; intro e w1 k1; obtain ⟨rfl, k2⟩ := id k1; have K1 := Lib.hid k1; clear k1 k2)
  exact bodyPost_ret (v := .tuple #[]) (results_none rfl _ _ _) rfl K1.out

set_option maxRecDepth 100000 in
theorem eff_nil (b : Bl) (p : Prg) (x : Ins) (w : World) (g : Gh) (steps seed err : Int) (hm : Mem b w g) (hR : RB b p w g.sv g.fv steps seed false err) (hn : g.S.length ≤ 1000000) :
    Calls Tryd.prog 81 #[x.val, .pointer (some ⟨b.tb, 0, none⟩)] w (EffP b p w g (.ok ⟨ers g.S ++ [.mk 3 0 0 []], g.F.map Fr.er, seed, false⟩) steps err) := by
  have C1 : ∀ o, Calls Tryd.prog 69 #[.pointer (some ⟨b.rb, 0, none⟩), vec 3 0] (w.alloc o) (EffP b p w g (.ok ⟨ers g.S ++ [.mk 3 0 0 []], g.F.map Fr.er, seed, false⟩) steps err) := fun o =>
    (push_num b p 3 0 (w.alloc o) g steps seed false err (hm.alloc o) (hR.alloc o) hn).mono fun e w' h => EffP.push h (Ch.grown (grown_alloc w o _)) (by rw [AV.num_er])
  have H1 := Lib.hid C1
  have ct := fun o => tb_cell' hm o
  clear C1 hm hR hn
  unfold Ins.val
  go_enter Tryd.func81, Tryd.ntmps81
  go_wp2_with (go_at_call 69; refine (H1.out _).mono ?_; intro e w1 k1; obtain ⟨rfl, k2⟩ := id k1; have K1 := Lib.hid k1; clear k1 k2)
  exact bodyPost_ret (v := .tuple #[]) (results_none rfl _ _ _) rfl K1.out

def PBoolP (b : Bl) (p : Prg) (w : World) (g : Gh) (i steps seed : Int) (done : Bool) (err : Int) (e : Ending) (w' : World) : Prop := e = .returned (.tuple #[]) ∧ ∃ w1, w.grownBy w1 none ∧ PushP b p w1 g (AV.num 2 i) steps seed done err e w'
set_option maxRecDepth 100000 in
theorem pushBool_any (b : Bl) (p : Prg) (q : Bool) (w : World) (g : Gh) (steps seed : Int) (done : Bool) (err : Int) (hm : Mem b w g) (hR : RB b p w g.sv g.fv steps seed done err) (hn : g.S.length ≤ 1000000) :
    Calls Tryd.prog 92 #[.pointer (some ⟨b.rb, 0, none⟩), .bool q] w (PBoolP b p w g (if q then 1 else 0) steps seed done err) := by
  cases q with
  | true =>
    rw [show (if (true : Bool) = true then (1 : Int) else 0) = 1 from rfl]
    have C1 : ∀ o, Calls Tryd.prog 69 #[.pointer (some ⟨b.rb, 0, none⟩), vec 2 1] (w.alloc o) (PBoolP b p w g 1 steps seed done err) := fun o =>
      (push_num b p 2 1 (w.alloc o) g steps seed done err (hm.alloc o) (hR.alloc o) hn).mono fun e w' h => ⟨h.1, _, grown_alloc w o _, h⟩
    have H1 := Lib.hid C1
    clear C1 hm hR hn
    go_enter Tryd.func92, Tryd.ntmps92
    go_wp2_with (go_at_call 69; refine (H1.out _).mono ?_; intro e w1 k1; obtain ⟨rfl, k2⟩ := id k1; have K1 := Lib.hid k1; clear k1 k2)
    exact bodyPost_ret (v := .tuple #[]) (results_none rfl _ _ _) rfl K1.out
  | false =>
    rw [show (if (false : Bool) = true then (1 : Int) else 0) = 0 from rfl]
    have C1 : ∀ o, Calls Tryd.prog 69 #[.pointer (some ⟨b.rb, 0, none⟩), vec 2 0] (w.alloc o) (PBoolP b p w g 0 steps seed done err) := fun o =>
      (push_num b p 2 0 (w.alloc o) g steps seed done err (hm.alloc o) (hR.alloc o) hn).mono fun e w' h => ⟨h.1, _, grown_alloc w o _, h⟩
    have H1 := Lib.hid C1
    clear C1 hm hR hn
    go_enter Tryd.func92, Tryd.ntmps92
    go_wp2_with (go_at_call 69; refine (H1.out _).mono ?_; intro e w1 k1; obtain ⟨rfl, k2⟩ := id k1; have K1 := Lib.hid k1; clear k1 k2)
    exact bodyPost_ret (v := .tuple #[]) (results_none rfl _ _ _) rfl K1.out
end Go.Proofs.YtdfllhmkgphcmaaDoor
namespace Go.Proofs.YtdfllhmkgphcmaaDoor
open Go.RowKit

theorem Ch.retag {w w' : World} {g g1 g2 : Gh} (h : Ch w g w' g1) (e : g2.tag = g1.tag) : Ch w g w' g2 := ⟨h.os, h.tape, h.output, h.size, h.block, by rw [e]; exact h.tag⟩
theorem fld1 (k i bl : Int) (A : Option Addr) (n c : Nat) (w : World) : (Instr.field 54 (.agg #[.int .i64 k, .int .i64 i, .slice A n c, .int .i64 bl, .string ⟨#[]⟩, .string ⟨#[]⟩, .slice none 0 0, .slice none 0 0]) 1).run Tryd.prog w = .ok (.int .i64 i) w := by kernel_rfl
theorem fld2 (k i bl : Int) (A : Option Addr) (n c : Nat) (w : World) : (Instr.field 54 (.agg #[.int .i64 k, .int .i64 i, .slice A n c, .int .i64 bl, .string ⟨#[]⟩, .string ⟨#[]⟩, .slice none 0 0, .slice none 0 0]) 2).run Tryd.prog w = .ok (.slice A n c) w := by kernel_rfl
theorem Flt.trans {b : Bl} {p : Prg} {w w1 : World} {steps : Int} {done : Bool} {err c : Int} {e : Ending} {w' : World} (hg : w.grownBy w1 (some b.rb)) (h : Flt b p w1 steps done err c e w') : Flt b p w steps done err c e w' := ⟨h.1, hg.trans h.2.1, h.2.2⟩
/-- A pop of a kind, whatever is there. -/
def PopKP (b : Bl) (p : Prg) (w : World) (g : Gh) (k steps seed : Int) (done : Bool) (err : Int) (e : Ending) (w' : World) : Prop :=
  match popK k (ers g.S) with
  | none => Flt b p w steps done err 26 e w'
  | some (S, v) => ∃ (S' : List AV) (x : AV), g.S = S' ++ [x] ∧ ers S' = S ∧ x.er = v ∧ x.kind = k ∧ PopM b p w g S' x.v steps seed done err e w'
theorem popK_any (b : Bl) (p : Prg) (w : World) (g : Gh) (k steps seed : Int) (done : Bool) (err : Int) (hm : Mem b w g) (hR : RB b p w g.sv g.fv steps seed done err) (hn : g.S.length ≤ 1000000) :
    Calls Tryd.prog 79 #[.pointer (some ⟨b.rb, 0, none⟩), iv k] w (PopKP b p w g k steps seed done err) := by
  rcases snoc_cases g.S with h | ⟨S, x, h⟩
  · unfold PopKP
    rw [h]
    exact popK_none b p w g k steps seed done err hm hR h
  · by_cases hk : x.kind = k
    · subst hk
      refine (popK_ok b p w g S x steps seed done err hm hR h hn).mono fun e w' hp => ?_
      unfold PopKP
      have : popK x.kind (ers g.S) = some (ers S, x.er) := by rw [h, ers_append]; simp [popK, er_kind]
      rw [this]
      exact ⟨S, x, h, rfl, rfl, rfl, hp⟩
    · refine (popK_bad b p w g S x k steps seed done err hm hR h hn hk).mono fun e w' hp => ?_
      unfold PopKP
      have : popK k (ers g.S) = none := by rw [h, ers_append]; simp [popK, er_kind, hk]
      rw [this]
      exact hp

set_option maxRecDepth 100000 in
set_option maxHeartbeats 1000000 in
theorem operate_flt1 (b : Bl) (p : Prg) (x : Ins) (w : World) (g : Gh) (steps seed err : Int) (hm : Mem b w g) (hR : RB b p w g.sv g.fv steps seed false err) (hn : g.S.length ≤ 1000000) (h : popK 1 (ers g.S) = none) :
    Calls Tryd.prog 80 #[.pointer (some ⟨b.rb, 0, none⟩), x.val] w (EffP b p w g (.error 26) steps err) := by
  have C1 : ∀ o, Calls Tryd.prog 79 #[.pointer (some ⟨b.rb, 0, none⟩), .int .i64 1] (w.alloc o) (Flt b p w steps false err 26) := fun o =>
    (popK_any b p (w.alloc o) g 1 steps seed false err (hm.alloc o) (hR.alloc o) hn).mono fun e w' hp => by
      unfold PopKP at hp
      rw [h] at hp
      exact Flt.trans (grown_alloc w o _) hp
  have H1 := Lib.hid C1
  clear C1 hm hR hn h
  unfold Ins.val
  go_enter Tryd.func80, Tryd.ntmps80
  go_wp2_with (go_at_call 79; refine (H1.out _).mono ?_; intro e w1 k1; obtain ⟨rfl, k2⟩ := id k1; have K1 := Lib.hid k1; clear k1 k2)
  exact ⟨rfl, K1.out⟩
/-- What two pops have left. -/
def Two (b : Bl) (p : Prg) (w : World) (g : Gh) (o : Obj) (S : List AV) (steps seed err : Int) (w' : World) : Prop :=
  w'.heap[w.heap.size]? = some o ∧ w.grownBy w' (some b.rb) ∧ ∃ g2, g2.S = S ∧ g2.F = g.F ∧ Mem b w' g2 ∧ Ch w g w' g2 ∧ RB b p w' g2.sv g2.fv steps seed false err
theorem two_any (b : Bl) (p : Prg) (w : World) (g : Gh) (S : List AV) (u v : AV) (steps seed err : Int) (hm : Mem b w g) (hR : RB b p w g.sv g.fv steps seed false err) (hn : g.S.length ≤ 1000000) (h : g.S = S ++ [u] ++ [v]) (ku kv : Int) (hu : u.kind = ku) (hv : v.kind = kv) :
    (∀ o, Calls Tryd.prog 79 #[.pointer (some ⟨b.rb, 0, none⟩), .int .i64 kv] (w.alloc o) (PopM b p (w.alloc o) g (S ++ [u]) v.v steps seed false err)) ∧
    ∀ o w1 e, PopM b p (w.alloc o) g (S ++ [u]) v.v steps seed false err e w1 → Calls Tryd.prog 79 #[.pointer (some ⟨b.rb, 0, none⟩), .int .i64 ku] w1 fun e w' => e = .returned u.v ∧ Two b p w g o S steps seed err w' := by
  have hl : g.S.length = S.length + 2 := by rw [h]; simp
  have hrb := hR.lt
  refine ⟨fun o => ?_, fun o w1 e ⟨_, h1, sv1, h2, h3⟩ => ?_⟩
  · have := popK_ok b p (w.alloc o) g (S ++ [u]) v steps seed false err (hm.alloc o) (hR.alloc o) h hn
    rwa [hv] at this
  · have := popK_ok b p w1 { g with S := S ++ [u], sv := sv1 } S u steps seed false err h3 h2 rfl (by simp; omega)
    rw [hu] at this
    refine this.mono ?_
    rintro e2 w2 ⟨rfl, k1, sv2, k2, k3⟩
    have hs := h1.size
    simp at hs
    refine ⟨rfl, ?_, (grown_alloc w o _).trans (h1.trans k1), { g with S := S, sv := sv2 }, rfl, rfl, k3, (Ch.only hm ((grown_alloc w o _).trans (h1.trans k1))).retag rfl, k2⟩
    rw [k1.block _ (by omega) (by intro e; have : w.heap.size = b.rb := Option.some.inj e; omega), h1.block _ (by simp) (by intro e; have : w.heap.size = b.rb := Option.some.inj e; omega)]
    exact al_new w o
theorem Two.bool {b : Bl} {p : Prg} {w : World} {g : Gh} {o : Obj} {S : List AV} {steps seed err : Int} {w' : World} (h : Two b p w g o S steps seed err w') (hn : S.length ≤ 1000000) (q : Bool) :
    Calls Tryd.prog 92 #[.pointer (some ⟨b.rb, 0, none⟩), .bool q] w' (EffP b p w g (.ok ⟨ers S ++ [vBool q], g.F.map Fr.er, seed, false⟩) steps err) := by
  obtain ⟨_, _, g2, rfl, h2, h3, h4, h5⟩ := h
  refine (pushBool_any b p q w' g2 steps seed false err h3 h5 hn).mono ?_
  rintro e w2 ⟨_, w1, k1, k2⟩
  exact EffP.push k2 (h4.trans (Ch.grown k1)) (by rw [AV.num_er, h2]; cases q <;> rfl)
theorem Two.num {b : Bl} {p : Prg} {w : World} {g : Gh} {o : Obj} {S : List AV} {steps seed err : Int} {w' : World} (h : Two b p w g o S steps seed err w') (hn : S.length ≤ 1000000) (n : Int) :
    Calls Tryd.prog 69 #[.pointer (some ⟨b.rb, 0, none⟩), vec 1 n] w' (EffP b p w g (.ok ⟨ers S ++ [vInt n], g.F.map Fr.er, seed, false⟩) steps err) := by
  obtain ⟨_, _, g2, rfl, h2, h3, h4, h5⟩ := h
  refine (push_num b p 1 n w' g2 steps seed false err h3 h5 hn).mono fun e w2 k2 => ?_
  exact EffP.push k2 h4 (by rw [AV.num_er, h2]; rfl)
theorem Two.flt {b : Bl} {p : Prg} {w : World} {g : Gh} {o : Obj} {S : List AV} {steps seed err : Int} {w' : World} (h : Two b p w g o S steps seed err w') (c : Int) : EffP b p w g (.error c) steps err (.panicked (stopC c)) w' := by
  obtain ⟨_, h1, g2, _, _, _, _, h5⟩ := h
  exact ⟨rfl, h1, _, _, _, h5⟩

set_option maxRecDepth 100000 in
set_option maxHeartbeats 1000000 in
theorem operate_eq (b : Bl) (p : Prg) (op xa xb : Int)  (w : World) (g : Gh) (S : List AV) (u v : AV) (steps seed err : Int) (hm : Mem b w g) (hR : RB b p w g.sv g.fv steps seed false err) (hn : g.S.length ≤ 1000000) (h : g.S = S ++ [u] ++ [v]) (hu : u.kind = 1) (hv : v.kind = 1)  :
    Calls Tryd.prog 80 #[.pointer (some ⟨b.rb, 0, none⟩), .agg #[iv op, iv xa, iv xb, tv [61]]] w (EffP b p w g (.ok ⟨ers S ++ [vBool (u.int == v.int)], g.F.map Fr.er, seed, false⟩) steps err) := by
  have hl : S.length ≤ 1000000 := by rw [h] at hn; simp at hn; omega
  obtain ⟨C1, C2⟩ := two_any b p w g S u v steps seed err hm hR hn h 1 1 hu hv
  have C3 := fun (o : Obj) (w' : World) (h : Two b p w g o S steps seed err w') => Two.bool h hl (u.int == v.int)
  have FA := Lib.hid (fun W => fault_any 5 W)
  have FL := Lib.hid (fun (o : Obj) (w' : World) (h : Two b p w g o S steps seed err w') => Two.flt h 5)
  have H1 := Lib.hid C1
  have H2 := Lib.hid C2
  have H3 := Lib.hid C3
  clear C1 C2 C3 hm hR hn h hl hu hv
  have hf := fld1
  unfold AV.v at H1 H2
  generalize u.int = U at *
  generalize v.int = V at *
  go_enter Tryd.func80, Tryd.ntmps80
  go_wp2_with (first | (go_at_call 79; refine (H1.out _).mono ?_; intro e w1 k1; obtain ⟨rfl, k2⟩ := id k1; have K1 := Lib.hid k1; clear k1 k2) | (go_at_call 79; refine (H2.out _ _ _ K1.out).mono ?_; rintro e w2 ⟨rfl, k2⟩; have kb := k2.1; have c3 := Lib.cell_of_heap kb 3; simp at c3; have K2 := Lib.hid k2; clear k2 kb) | (go_at_call 92; refine (H3.out _ _ K2.out).mono ?_; intro e w3 k3; obtain ⟨rfl, k4⟩ := id k3; have K3 := Lib.hid k3; clear k3 k4) | (go_at_call 58; refine (FA.out _).mono ?_; rintro e w3 ⟨rfl, rfl⟩))
  exact bodyPost_ret (v := .tuple #[]) (results_none rfl _ _ _) rfl K3.out

set_option maxRecDepth 100000 in
set_option maxHeartbeats 1000000 in
theorem operate_lt (b : Bl) (p : Prg) (op xa xb : Int)  (w : World) (g : Gh) (S : List AV) (u v : AV) (steps seed err : Int) (hm : Mem b w g) (hR : RB b p w g.sv g.fv steps seed false err) (hn : g.S.length ≤ 1000000) (h : g.S = S ++ [u] ++ [v]) (hu : u.kind = 1) (hv : v.kind = 1)  :
    Calls Tryd.prog 80 #[.pointer (some ⟨b.rb, 0, none⟩), .agg #[iv op, iv xa, iv xb, tv [60]]] w (EffP b p w g (.ok ⟨ers S ++ [vBool (decide (u.int < v.int))], g.F.map Fr.er, seed, false⟩) steps err) := by
  have hl : S.length ≤ 1000000 := by rw [h] at hn; simp at hn; omega
  obtain ⟨C1, C2⟩ := two_any b p w g S u v steps seed err hm hR hn h 1 1 hu hv
  have C3 := fun (o : Obj) (w' : World) (h : Two b p w g o S steps seed err w') => Two.bool h hl (decide (u.int < v.int))
  have FA := Lib.hid (fun W => fault_any 5 W)
  have FL := Lib.hid (fun (o : Obj) (w' : World) (h : Two b p w g o S steps seed err w') => Two.flt h 5)
  have H1 := Lib.hid C1
  have H2 := Lib.hid C2
  have H3 := Lib.hid C3
  clear C1 C2 C3 hm hR hn h hl hu hv
  have hf := fld1
  unfold AV.v at H1 H2
  generalize u.int = U at *
  generalize v.int = V at *
  go_enter Tryd.func80, Tryd.ntmps80
  go_wp2_with (first | (go_at_call 79; refine (H1.out _).mono ?_; intro e w1 k1; obtain ⟨rfl, k2⟩ := id k1; have K1 := Lib.hid k1; clear k1 k2) | (go_at_call 79; refine (H2.out _ _ _ K1.out).mono ?_; rintro e w2 ⟨rfl, k2⟩; have kb := k2.1; have c3 := Lib.cell_of_heap kb 3; simp at c3; have K2 := Lib.hid k2; clear k2 kb) | (go_at_call 92; refine (H3.out _ _ K2.out).mono ?_; intro e w3 k3; obtain ⟨rfl, k4⟩ := id k3; have K3 := Lib.hid k3; clear k3 k4) | (go_at_call 58; refine (FA.out _).mono ?_; rintro e w3 ⟨rfl, rfl⟩))
  exact bodyPost_ret (v := .tuple #[]) (results_none rfl _ _ _) rfl K3.out

set_option maxRecDepth 100000 in
set_option maxHeartbeats 1000000 in
theorem operate_add_ok (b : Bl) (p : Prg) (op xa xb : Int)  (w : World) (g : Gh) (S : List AV) (u v : AV) (steps seed err : Int) (hm : Mem b w g) (hR : RB b p w g.sv g.fv steps seed false err) (hn : g.S.length ≤ 1000000) (h : g.S = S ++ [u] ++ [v]) (hu : u.kind = 1) (hv : v.kind = 1) (hr : -999999999 ≤ Go.RowKit.wrap64 (u.int + v.int) ∧ Go.RowKit.wrap64 (u.int + v.int) ≤ 999999999)  :
    Calls Tryd.prog 80 #[.pointer (some ⟨b.rb, 0, none⟩), .agg #[iv op, iv xa, iv xb, tv [43]]] w (EffP b p w g (.ok ⟨ers S ++ [vInt (Go.RowKit.wrap64 (u.int + v.int))], g.F.map Fr.er, seed, false⟩) steps err) := by
  have hl : S.length ≤ 1000000 := by rw [h] at hn; simp at hn; omega
  obtain ⟨C1, C2⟩ := two_any b p w g S u v steps seed err hm hR hn h 1 1 hu hv
  have C3 := fun (o : Obj) (w' : World) (h : Two b p w g o S steps seed err w') => Two.num h hl (Go.RowKit.wrap64 (u.int + v.int))
  have FA := Lib.hid (fun W => fault_any 5 W)
  have FL := Lib.hid (fun (o : Obj) (w' : World) (h : Two b p w g o S steps seed err w') => Two.flt h 5)
  have H1 := Lib.hid C1
  have H2 := Lib.hid C2
  have H3 := Lib.hid C3
  clear C1 C2 C3 hm hR hn h hl hu hv
  have hf := fld1
  unfold AV.v at H1 H2
  generalize u.int = U at *
  generalize v.int = V at *
  obtain ⟨r1, r2⟩ := hr
  go_enter Tryd.func80, Tryd.ntmps80
  go_wp2_with (first | (go_at_call 79; refine (H1.out _).mono ?_; intro e w1 k1; obtain ⟨rfl, k2⟩ := id k1; have K1 := Lib.hid k1; clear k1 k2) | (go_at_call 79; refine (H2.out _ _ _ K1.out).mono ?_; rintro e w2 ⟨rfl, k2⟩; have kb := k2.1; have c3 := Lib.cell_of_heap kb 3; simp at c3; have K2 := Lib.hid k2; clear k2 kb) | (go_at_call 69; refine (H3.out _ _ K2.out).mono ?_; intro e w3 k3; obtain ⟨rfl, k4⟩ := id k3; have K3 := Lib.hid k3; clear k3 k4) | (go_at_call 58; refine (FA.out _).mono ?_; rintro e w3 ⟨rfl, rfl⟩))
  exact bodyPost_ret (v := .tuple #[]) (results_none rfl _ _ _) rfl K3.out

set_option maxRecDepth 100000 in
set_option maxHeartbeats 1000000 in
theorem operate_add_flt (b : Bl) (p : Prg) (op xa xb : Int)  (w : World) (g : Gh) (S : List AV) (u v : AV) (steps seed err : Int) (hm : Mem b w g) (hR : RB b p w g.sv g.fv steps seed false err) (hn : g.S.length ≤ 1000000) (h : g.S = S ++ [u] ++ [v]) (hu : u.kind = 1) (hv : v.kind = 1) (hr : Go.RowKit.wrap64 (u.int + v.int) < -999999999 ∨ 999999999 < Go.RowKit.wrap64 (u.int + v.int))  :
    Calls Tryd.prog 80 #[.pointer (some ⟨b.rb, 0, none⟩), .agg #[iv op, iv xa, iv xb, tv [43]]] w (EffP b p w g (.error 5) steps err) := by
  have hl : S.length ≤ 1000000 := by rw [h] at hn; simp at hn; omega
  obtain ⟨C1, C2⟩ := two_any b p w g S u v steps seed err hm hR hn h 1 1 hu hv
  have C3 := fun (o : Obj) (w' : World) (h : Two b p w g o S steps seed err w') => Two.num h hl (Go.RowKit.wrap64 (u.int + v.int))
  have FA := Lib.hid (fun W => fault_any 5 W)
  have FL := Lib.hid (fun (o : Obj) (w' : World) (h : Two b p w g o S steps seed err w') => Two.flt h 5)
  have H1 := Lib.hid C1
  have H2 := Lib.hid C2
  have H3 := Lib.hid C3
  clear C1 C2 C3 hm hR hn h hl hu hv
  have hf := fld1
  unfold AV.v at H1 H2
  generalize u.int = U at *
  generalize v.int = V at *
  rcases hr with r1 | r1
  all_goals
    go_enter Tryd.func80, Tryd.ntmps80
    go_wp2_with (first | (go_at_call 79; refine (H1.out _).mono ?_; intro e w1 k1; obtain ⟨rfl, k2⟩ := id k1; have K1 := Lib.hid k1; clear k1 k2) | (go_at_call 79; refine (H2.out _ _ _ K1.out).mono ?_; rintro e w2 ⟨rfl, k2⟩; have kb := k2.1; have c3 := Lib.cell_of_heap kb 3; simp at c3; have K2 := Lib.hid k2; clear k2 kb) | (go_at_call 69; refine (H3.out _ _ K2.out).mono ?_; intro e w3 k3; obtain ⟨rfl, k4⟩ := id k3; have K3 := Lib.hid k3; clear k3 k4) | (go_at_call 58; refine (FA.out _).mono ?_; rintro e w3 ⟨rfl, rfl⟩))
    exact ⟨rfl, FL.out _ _ K2.out⟩

set_option maxRecDepth 100000 in
set_option maxHeartbeats 1000000 in
theorem operate_sub_ok (b : Bl) (p : Prg) (op xa xb : Int)  (w : World) (g : Gh) (S : List AV) (u v : AV) (steps seed err : Int) (hm : Mem b w g) (hR : RB b p w g.sv g.fv steps seed false err) (hn : g.S.length ≤ 1000000) (h : g.S = S ++ [u] ++ [v]) (hu : u.kind = 1) (hv : v.kind = 1) (hr : -999999999 ≤ Go.RowKit.wrap64 (u.int - v.int) ∧ Go.RowKit.wrap64 (u.int - v.int) ≤ 999999999)  :
    Calls Tryd.prog 80 #[.pointer (some ⟨b.rb, 0, none⟩), .agg #[iv op, iv xa, iv xb, tv [45]]] w (EffP b p w g (.ok ⟨ers S ++ [vInt (Go.RowKit.wrap64 (u.int - v.int))], g.F.map Fr.er, seed, false⟩) steps err) := by
  have hl : S.length ≤ 1000000 := by rw [h] at hn; simp at hn; omega
  obtain ⟨C1, C2⟩ := two_any b p w g S u v steps seed err hm hR hn h 1 1 hu hv
  have C3 := fun (o : Obj) (w' : World) (h : Two b p w g o S steps seed err w') => Two.num h hl (Go.RowKit.wrap64 (u.int - v.int))
  have FA := Lib.hid (fun W => fault_any 5 W)
  have FL := Lib.hid (fun (o : Obj) (w' : World) (h : Two b p w g o S steps seed err w') => Two.flt h 5)
  have H1 := Lib.hid C1
  have H2 := Lib.hid C2
  have H3 := Lib.hid C3
  clear C1 C2 C3 hm hR hn h hl hu hv
  have hf := fld1
  unfold AV.v at H1 H2
  generalize u.int = U at *
  generalize v.int = V at *
  obtain ⟨r1, r2⟩ := hr
  go_enter Tryd.func80, Tryd.ntmps80
  go_wp2_with (first | (go_at_call 79; refine (H1.out _).mono ?_; intro e w1 k1; obtain ⟨rfl, k2⟩ := id k1; have K1 := Lib.hid k1; clear k1 k2) | (go_at_call 79; refine (H2.out _ _ _ K1.out).mono ?_; rintro e w2 ⟨rfl, k2⟩; have kb := k2.1; have c3 := Lib.cell_of_heap kb 3; simp at c3; have K2 := Lib.hid k2; clear k2 kb) | (go_at_call 69; refine (H3.out _ _ K2.out).mono ?_; intro e w3 k3; obtain ⟨rfl, k4⟩ := id k3; have K3 := Lib.hid k3; clear k3 k4) | (go_at_call 58; refine (FA.out _).mono ?_; rintro e w3 ⟨rfl, rfl⟩))
  exact bodyPost_ret (v := .tuple #[]) (results_none rfl _ _ _) rfl K3.out

set_option maxRecDepth 100000 in
set_option maxHeartbeats 1000000 in
theorem operate_sub_flt (b : Bl) (p : Prg) (op xa xb : Int)  (w : World) (g : Gh) (S : List AV) (u v : AV) (steps seed err : Int) (hm : Mem b w g) (hR : RB b p w g.sv g.fv steps seed false err) (hn : g.S.length ≤ 1000000) (h : g.S = S ++ [u] ++ [v]) (hu : u.kind = 1) (hv : v.kind = 1) (hr : Go.RowKit.wrap64 (u.int - v.int) < -999999999 ∨ 999999999 < Go.RowKit.wrap64 (u.int - v.int))  :
    Calls Tryd.prog 80 #[.pointer (some ⟨b.rb, 0, none⟩), .agg #[iv op, iv xa, iv xb, tv [45]]] w (EffP b p w g (.error 5) steps err) := by
  have hl : S.length ≤ 1000000 := by rw [h] at hn; simp at hn; omega
  obtain ⟨C1, C2⟩ := two_any b p w g S u v steps seed err hm hR hn h 1 1 hu hv
  have C3 := fun (o : Obj) (w' : World) (h : Two b p w g o S steps seed err w') => Two.num h hl (Go.RowKit.wrap64 (u.int - v.int))
  have FA := Lib.hid (fun W => fault_any 5 W)
  have FL := Lib.hid (fun (o : Obj) (w' : World) (h : Two b p w g o S steps seed err w') => Two.flt h 5)
  have H1 := Lib.hid C1
  have H2 := Lib.hid C2
  have H3 := Lib.hid C3
  clear C1 C2 C3 hm hR hn h hl hu hv
  have hf := fld1
  unfold AV.v at H1 H2
  generalize u.int = U at *
  generalize v.int = V at *
  rcases hr with r1 | r1
  all_goals
    go_enter Tryd.func80, Tryd.ntmps80
    go_wp2_with (first | (go_at_call 79; refine (H1.out _).mono ?_; intro e w1 k1; obtain ⟨rfl, k2⟩ := id k1; have K1 := Lib.hid k1; clear k1 k2) | (go_at_call 79; refine (H2.out _ _ _ K1.out).mono ?_; rintro e w2 ⟨rfl, k2⟩; have kb := k2.1; have c3 := Lib.cell_of_heap kb 3; simp at c3; have K2 := Lib.hid k2; clear k2 kb) | (go_at_call 69; refine (H3.out _ _ K2.out).mono ?_; intro e w3 k3; obtain ⟨rfl, k4⟩ := id k3; have K3 := Lib.hid k3; clear k3 k4) | (go_at_call 58; refine (FA.out _).mono ?_; rintro e w3 ⟨rfl, rfl⟩))
    exact ⟨rfl, FL.out _ _ K2.out⟩

set_option maxRecDepth 100000 in
set_option maxHeartbeats 1000000 in
theorem operate_mul_ok (b : Bl) (p : Prg) (op xa xb : Int) (name : T)  (w : World) (g : Gh) (S : List AV) (u v : AV) (steps seed err : Int) (hm : Mem b w g) (hR : RB b p w g.sv g.fv steps seed false err) (hn : g.S.length ≤ 1000000) (h : g.S = S ++ [u] ++ [v]) (hu : u.kind = 1) (hv : v.kind = 1) (hr : -999999999 ≤ Go.RowKit.wrap64 (u.int * v.int) ∧ Go.RowKit.wrap64 (u.int * v.int) ≤ 999999999) (n1 : (name == [61]) = false) (n2 : (name == [60]) = false) (n3 : (name == [43]) = false) (n4 : (name == [45]) = false)  :
    Calls Tryd.prog 80 #[.pointer (some ⟨b.rb, 0, none⟩), .agg #[iv op, iv xa, iv xb, tv name]] w (EffP b p w g (.ok ⟨ers S ++ [vInt (Go.RowKit.wrap64 (u.int * v.int))], g.F.map Fr.er, seed, false⟩) steps err) := by
  have hl : S.length ≤ 1000000 := by rw [h] at hn; simp at hn; omega
  obtain ⟨C1, C2⟩ := two_any b p w g S u v steps seed err hm hR hn h 1 1 hu hv
  have C3 := fun (o : Obj) (w' : World) (h : Two b p w g o S steps seed err w') => Two.num h hl (Go.RowKit.wrap64 (u.int * v.int))
  have FA := Lib.hid (fun W => fault_any 5 W)
  have FL := Lib.hid (fun (o : Obj) (w' : World) (h : Two b p w g o S steps seed err w') => Two.flt h 5)
  have H1 := Lib.hid C1
  have H2 := Lib.hid C2
  have H3 := Lib.hid C3
  clear C1 C2 C3 hm hR hn h hl hu hv
  have hf := fld1
  unfold AV.v at H1 H2
  generalize u.int = U at *
  generalize v.int = V at *
  obtain ⟨r1, r2⟩ := hr
  go_enter Tryd.func80, Tryd.ntmps80
  go_wp2_with (first | (go_at_call 79; refine (H1.out _).mono ?_; intro e w1 k1; obtain ⟨rfl, k2⟩ := id k1; have K1 := Lib.hid k1; clear k1 k2) | (go_at_call 79; refine (H2.out _ _ _ K1.out).mono ?_; rintro e w2 ⟨rfl, k2⟩; have kb := k2.1; have c3 := Lib.cell_of_heap kb 3; simp at c3; have K2 := Lib.hid k2; clear k2 kb) | (go_at_call 69; refine (H3.out _ _ K2.out).mono ?_; intro e w3 k3; obtain ⟨rfl, k4⟩ := id k3; have K3 := Lib.hid k3; clear k3 k4) | (go_at_call 58; refine (FA.out _).mono ?_; rintro e w3 ⟨rfl, rfl⟩))
  exact bodyPost_ret (v := .tuple #[]) (results_none rfl _ _ _) rfl K3.out

set_option maxRecDepth 100000 in
set_option maxHeartbeats 1000000 in
theorem operate_mul_flt (b : Bl) (p : Prg) (op xa xb : Int) (name : T)  (w : World) (g : Gh) (S : List AV) (u v : AV) (steps seed err : Int) (hm : Mem b w g) (hR : RB b p w g.sv g.fv steps seed false err) (hn : g.S.length ≤ 1000000) (h : g.S = S ++ [u] ++ [v]) (hu : u.kind = 1) (hv : v.kind = 1) (hr : Go.RowKit.wrap64 (u.int * v.int) < -999999999 ∨ 999999999 < Go.RowKit.wrap64 (u.int * v.int)) (n1 : (name == [61]) = false) (n2 : (name == [60]) = false) (n3 : (name == [43]) = false) (n4 : (name == [45]) = false)  :
    Calls Tryd.prog 80 #[.pointer (some ⟨b.rb, 0, none⟩), .agg #[iv op, iv xa, iv xb, tv name]] w (EffP b p w g (.error 5) steps err) := by
  have hl : S.length ≤ 1000000 := by rw [h] at hn; simp at hn; omega
  obtain ⟨C1, C2⟩ := two_any b p w g S u v steps seed err hm hR hn h 1 1 hu hv
  have C3 := fun (o : Obj) (w' : World) (h : Two b p w g o S steps seed err w') => Two.num h hl (Go.RowKit.wrap64 (u.int * v.int))
  have FA := Lib.hid (fun W => fault_any 5 W)
  have FL := Lib.hid (fun (o : Obj) (w' : World) (h : Two b p w g o S steps seed err w') => Two.flt h 5)
  have H1 := Lib.hid C1
  have H2 := Lib.hid C2
  have H3 := Lib.hid C3
  clear C1 C2 C3 hm hR hn h hl hu hv
  have hf := fld1
  unfold AV.v at H1 H2
  generalize u.int = U at *
  generalize v.int = V at *
  rcases hr with r1 | r1
  all_goals
    go_enter Tryd.func80, Tryd.ntmps80
    go_wp2_with (first | (go_at_call 79; refine (H1.out _).mono ?_; intro e w1 k1; obtain ⟨rfl, k2⟩ := id k1; have K1 := Lib.hid k1; clear k1 k2) | (go_at_call 79; refine (H2.out _ _ _ K1.out).mono ?_; rintro e w2 ⟨rfl, k2⟩; have kb := k2.1; have c3 := Lib.cell_of_heap kb 3; simp at c3; have K2 := Lib.hid k2; clear k2 kb) | (go_at_call 69; refine (H3.out _ _ K2.out).mono ?_; intro e w3 k3; obtain ⟨rfl, k4⟩ := id k3; have K3 := Lib.hid k3; clear k3 k4) | (go_at_call 58; refine (FA.out _).mono ?_; rintro e w3 ⟨rfl, rfl⟩))
    exact ⟨rfl, FL.out _ _ K2.out⟩

end Go.Proofs.YtdfllhmkgphcmaaDoor
namespace Go.Proofs.YtdfllhmkgphcmaaDoor
open Go.RowKit

theorem flat_at {α : Type} (f : α → List Value) (m : Nat) (h : ∀ x, (f x).length = m) {x : α} {i : Nat} (hi : i < m) : ∀ (L : List α) (j : Nat), L[j]? = some x → (L.flatMap f)[j * m + i]? = (f x)[i]? := by
  intro L
  induction L with
  | nil => intro j hj; simp at hj
  | cons y L ih =>
    intro j hj
    cases j with
    | zero =>
      simp at hj
      subst hj
      simp only [List.flatMap_cons, Nat.zero_mul, Nat.zero_add]
      rw [List.getElem?_append_left (by rw [h]; exact hi)]
    | succ j =>
      simp only [List.flatMap_cons]
      have e : (j + 1) * m = j * m + m := by rw [Nat.add_mul, Nat.one_mul]
      rw [List.getElem?_append_right (by rw [h]; omega), h, show (j + 1) * m + i - m = j * m + i by omega]
      exact ih j (by simpa using hj)
theorem flat_set {α : Type} (f : α → List Value) (m : Nat) (h : ∀ x, (f x).length = m) {x x' : α} {i : Nat} {u : Value} (hx : f x' = (f x).set i u) (L : List α) : (L ++ [x']).flatMap f = ((L ++ [x]).flatMap f).set (L.length * m + i) u := by
  simp only [List.flatMap_append, List.flatMap_cons, List.flatMap_nil, List.append_nil, hx]
  rw [List.set_append_right _ _ (by rw [flat_len f m h]; omega), flat_len f m h, show L.length * m + i - L.length * m = i by omega]
theorem Mem.fform {b : Bl} {w : World} {g : Gh} (h : Mem b w g) : (g.fv = .slice none 0 0 ∧ g.F = []) ∨ ∃ fb c, g.fv = .slice (some ⟨fb, 0, none⟩) g.F.length c ∧ g.F.length ≤ c ∧ fb < w.heap.size ∧ b.B ≤ fb ∧ g.tag fb = .own ∧ (∃ cur, w.heap[fb]? = some (.cells cur 78 (0, 0))) ∧ ∀ (j : Nat) x, g.F[j]? = some x → ∀ i, i < 3 → w.cell? ⟨fb, j * 3 + i, none⟩ = x.cs[i]? := by
  rcases h.fr.2 with ⟨h1, h2⟩ | ⟨gg, cap, cur, e, hB, hg, hnc, _⟩
  · exact .inl ⟨h1, List.eq_nil_of_length_eq_zero h2⟩
  · refine .inr ⟨gg, cap, e, hnc, heap_lt hg, hB, h.frt gg (by rw [e]; rfl), ⟨_, hg⟩, fun j x hj i hi => ?_⟩
    have hst := h.fr
    rw [e] at hst
    have hlt : j < g.F.length := by
      rcases Nat.lt_or_ge j g.F.length with h' | h'
      · exact h'
      · rw [List.getElem?_eq_none h'] at hj; cases hj
    rw [World.ownsRow.cellAt hst _ (by omega)]
    exact flat_at Fr.cs 3 Fr.cs_len hi g.F j hj
/-- A field of the current call is turned. -/
theorem Mem.setTop {b : Bl} {w : World} {g : Gh} (h : Mem b w g) {G : List Fr} {f f' : Fr} (hF : g.F = G ++ [f]) {fb c : Nat} (hv : g.fv = .slice (some ⟨fb, 0, none⟩) g.F.length c) {i : Nat} {u : Value} (hcs : f'.cs = f.cs.set i u) (hf : FOk b.B g.tag w G.length f') :
    Mem b (w.setCell ⟨fb, (g.F.length - 1) * 3 + i, none⟩ u) { g with F := G ++ [f'] } ∧ Ch w g (w.setCell ⟨fb, (g.F.length - 1) * 3 + i, none⟩ u) { g with F := G ++ [f'] } := by
  have hl : g.F.length = G.length + 1 := by rw [hF]; simp
  have hst := h.fr
  rw [hv] at hst
  obtain ⟨hB, hlt⟩ := World.ownsRow.lt hst fb rfl
  have ht : g.tag fb = .own := h.frt fb (by rw [hv]; rfl)
  have hcell : ∃ cur, w.heap[fb]? = some (.cells cur 78 (0, 0)) := by
    rcases hst.2 with ⟨e, _⟩ | ⟨g2, cap, cur, e, _, hg, _⟩
    · cases e
    · simp only [Value.slice.injEq, Option.some.injEq, Addr.mk.injEq, and_true, true_and] at e
      obtain ⟨rfl, rfl⟩ := e
      exact ⟨_, hg⟩
  obtain ⟨cur, hcur⟩ := hcell
  obtain ⟨r1, _⟩ := World.ownsRow.stored hst ((g.F.length - 1) * 3 + i) u
  have hrest : ∀ k, k < w.heap.size → ¬ k = fb → (w.setCell ⟨fb, (g.F.length - 1) * 3 + i, none⟩ u).heap[k]? = w.heap[k]? := fun k _ hne => Below.heap_setCell _ _ _ _ hne
  have htag : g.tag = upT g.tag fb .own := by
    funext k
    by_cases e : k = fb
    · subst e; rw [upT_at, ht]
    · rw [upT_ne _ _ e]
  have key : (G ++ [f']).flatMap Fr.cs = (g.F.flatMap Fr.cs).set ((g.F.length - 1) * 3 + i) u := by
    rw [hF]
    have : (G ++ [f]).length - 1 = G.length := by simp
    rw [this]
    exact flat_set Fr.cs 3 Fr.cs_len hcs G
  refine Mem.one (g' := { g with F := G ++ [f'] }) h rfl rfl rfl (by simp) (fun k => k = fb) fb rfl (fun k hk => by subst hk; exact hB) (by simp; exact hlt) (fun k hk _ => by subst hk; exact ⟨ht, cur, 78, hcur, .inr rfl⟩) (fun k hk hne _ => hrest k hk hne) htag rfl
    (row_keep h.st fun k cur' e1 e2 => hrest k (heap_lt e2) fun e => by subst e; rw [hcur] at e2; simp at e2) (fun k e => .inr (h.stt k e)) ?_ (fun k e => .inr (h.frt k e)) h.sr ?_ (fun k hk hne _ => hrest k hk hne)
  · simp only []
    rw [key, hv, show (G ++ [f']).length = g.F.length by rw [hF]; simp]
    exact r1
  · intro d f2 hd
    simp only [] at hd
    rcases Nat.lt_or_ge d G.length with h1 | h1
    · rw [List.getElem?_append_left h1] at hd
      exact h.fl d f2 (by rw [hF, List.getElem?_append_left h1]; exact hd)
    · rw [List.getElem?_append_right h1] at hd
      have hd0 : d - G.length = 0 := by
        rcases Nat.lt_or_ge (d - G.length) 1 with h2 | h2
        · omega
        · rw [List.getElem?_eq_none (by simpa using h2)] at hd; cases hd
      rw [hd0] at hd
      simp at hd
      subst hd
      rw [show d = G.length by omega]
      exact hf
theorem Mem.top {b : Bl} {w : World} {g : Gh} (h : Mem b w g) {G : List Fr} {f : Fr} (hF : g.F = G ++ [f]) : FOk b.B g.tag w G.length f := h.fl G.length f (by rw [hF]; simp)
theorem FOk.at_ {B : Nat} {tag : Nat → Tag} {w : World} {d : Nat} {f : Fr} (h : FOk B tag w d f) (n : Int) : FOk B tag w d { f with at_ := n } := ⟨h.l, h.na, h.sp⟩
/-- The last call falls off. -/
theorem Mem.cutF {b : Bl} {w : World} {g : Gh} (h : Mem b w g) {G : List Fr} {f : Fr} (hF : g.F = G ++ [f]) {fb c : Nat} (hv : g.fv = .slice (some ⟨fb, 0, none⟩) g.F.length c) : Mem b w { g with F := G, fv := .slice (some ⟨fb, 0, none⟩) (g.F.length - 1) c } := by
  have hl : g.F.length = G.length + 1 := by rw [hF]; simp
  have hl2 : g.F.length - 1 = G.length := by omega
  refine { h with fr := ?_, frt := fun k e => h.frt k (by rw [hv]; exact e), fl := fun d f' hd => h.fl d f' (by
    rw [hF]
    simp only [] at hd
    rcases Nat.lt_or_ge d G.length with h1 | h1
    · rw [List.getElem?_append_left h1]; exact hd
    · rw [List.getElem?_eq_none h1] at hd; cases hd) }
  have h1 := h.fr
  rw [hv] at h1
  rcases h1.2 with ⟨e, _⟩ | ⟨g2, cap, cur, e, hb, hg, hnc, hm, hcs, ht⟩
  · cases e
  · simp only [Value.slice.injEq, Option.some.injEq, Addr.mk.injEq, and_true, true_and] at e
    obtain ⟨rfl, rfl⟩ := e
    refine ⟨by simp only [flat3], .inr ⟨fb, c, cur, by simp only [hl2], hb, hg, by simp only []; omega, hm, hcs, ?_⟩⟩
    simp only []
    have e2 : g.F.flatMap Fr.cs = G.flatMap Fr.cs ++ f.cs := by rw [hF]; simp
    rw [e2] at ht
    have e3 := congrArg (List.take (G.length * 3)) ht
    rw [List.take_take, Nat.min_eq_left (by omega), List.take_append_of_le_length (by rw [flat3]; exact Nat.le_refl _)] at e3
    rw [e3, List.take_of_length_le (by rw [flat3]; exact Nat.le_refl _)]

/-- The address of the current call. -/
theorem top_mem (b : Bl) (p : Prg) (w : World) (g : Gh) (steps seed : Int) (done : Bool) (err : Int) (fb c : Nat) (hR : RB b p w g.sv g.fv steps seed done err) (hv : g.fv = .slice (some ⟨fb, 0, none⟩) g.F.length c) (hn : 0 < g.F.length) (hn2 : g.F.length ≤ 1000000) :
    Calls Tryd.prog 59 #[.pointer (some ⟨b.rb, 0, none⟩)] w fun e w' => e = .returned (.pointer (some ⟨fb, (g.F.length - 1) * 3, none⟩)) ∧ ∃ k, w' = w.drewN k :=
  top_any b.rb fb g.F.length c w hn hn2 (by rw [hR.c 3, ← hv]; rfl)
end Go.Proofs.YtdfllhmkgphcmaaDoor
namespace Go.Proofs.YtdfllhmkgphcmaaDoor
open Go.RowKit

theorem EffP.flt {b : Bl} {p : Prg} {w w1 : World} {g : Gh} {steps err c : Int} {e : Ending} {w' : World} (hg : w.grownBy w1 (some b.rb)) (h : Flt b p w1 steps false err c e w') : EffP b p w g (.error c) steps err e w' := h.trans hg
theorem EffP.mk {b : Bl} {p : Prg} {w : World} {g g' : Gh} {S : List MV} {F : List MF} {steps seed err : Int} {done : Bool} {w' : World} (hm : Mem b w' g') (hc : Ch w g w' g') (hR : RB b p w' g'.sv g'.fv steps seed done err) (hS : ers g'.S = S) (hF : g'.F.map Fr.er = F) : EffP b p w g (.ok ⟨S, F, seed, done⟩) steps err (.returned (.tuple #[])) w' :=
  ⟨rfl, g', hm, hc, hR, hS, hF⟩
/-- The number of the current call is turned. -/
theorem EffP.jump {b : Bl} {p : Prg} {w W : World} {g g1 : Gh} {G : List Fr} {f : Fr} {steps seed err a : Int} {fb c : Nat} (hm : Mem b W g1) (hc : Ch w g W g1) (hR : RB b p W g1.sv g1.fv steps seed false err) (hF : g1.F = G ++ [f]) (hv : g1.fv = .slice (some ⟨fb, 0, none⟩) g1.F.length c) (hne : b.rb ≠ fb) :
    EffP b p w g (.ok ⟨ers g1.S, G.map Fr.er ++ [{ f.er with at_ := a }], seed, false⟩) steps err (.returned (.tuple #[])) (W.setCell ⟨fb, (g1.F.length - 1) * 3 + 1, none⟩ (iv a)) := by
  obtain ⟨m1, c1⟩ := hm.setTop (f' := { f with at_ := a }) hF hv (i := 1) (u := iv a) rfl ((hm.top hF).at_ a)
  exact EffP.mk m1 (hc.trans c1) (hR.keep (Below.heap_setCell _ _ _ _ hne)) rfl (by simp [Fr.er])
theorem fb_ne {b : Bl} {p : Prg} {w : World} {sv fv : Value} {steps seed err : Int} {done : Bool} (hR : RB b p w sv fv steps seed done err) {fb : Nat} {cur : Array Value} (h : w.heap[fb]? = some (.cells cur 78 (0, 0))) : b.rb ≠ fb := fun e => by
  subst e
  have := hR.symm.trans h
  simp at this

set_option maxRecDepth 100000 in
set_option maxHeartbeats 1000000 in
theorem eff_jump (b : Bl) (p : Prg) (op xa xb : Int) (name : T) (w : World) (g : Gh) (G : List Fr) (f : Fr) (steps seed err : Int) (hm : Mem b w g) (hR : RB b p w g.sv g.fv steps seed false err) (hF : g.F = G ++ [f]) (hn : g.F.length ≤ 1000000) :
    Calls Tryd.prog 77 #[.agg #[iv op, iv xa, iv xb, tv name], .pointer (some ⟨b.tb, 0, none⟩)] w (EffP b p w g (.ok ⟨ers g.S, G.map Fr.er ++ [{ f.er with at_ := xa }], seed, false⟩) steps err) := by
  have hl : g.F.length = G.length + 1 := by rw [hF]; simp
  rcases hm.fform with ⟨_, h⟩ | ⟨fb, c, hv, hnc, hfb, hB, htg, ⟨cur, hcur⟩, hc⟩
  · rw [h] at hF; simp at hF
  · have hne := fb_ne hR hcur
    have fin : ∀ o k, EffP b p w g (.ok ⟨ers g.S, G.map Fr.er ++ [{ f.er with at_ := xa }], seed, false⟩) steps err (.returned (.tuple #[])) (((w.alloc o).drewN k).setCell ⟨fb, (g.F.length - 1) * 3 + 1, none⟩ (iv xa)) := fun o k =>
      EffP.jump ((hm.alloc o).drewN k) (Ch.grown ((grown_alloc w o _).trans (grown_drewN _ k _))) (hR.alloc o) hF hv hne
    have C1 := fun (o : Obj) (k : Nat) => top_mem b p ((w.alloc o).drewN k) g steps seed false err fb c (hR.alloc o) hv (by omega) hn
    have ct := fun o => tb_cell' hm o
    have hat := hc (g.F.length - 1) f (by rw [hF]; simp) 1 (by omega)
    simp [Fr.cs] at hat
    have q1 := fun o => cell_al hat (by exact hfb) o
    have q2 : ∀ o, (w.alloc o).frozen? ⟨fb, (g.F.length - 1) * 3 + 1, none⟩ = false := fun o => by
      have := Below.heap_alloc w o fb hfb
      rw [hcur] at this
      simp [World.frozen?, this]
    have FIN := Lib.hid fin
    have H1 := Lib.hid C1
    generalize (g.F.length - 1) * 3 = ft at *
    clear fin C1 hm hR hF hn hc hat hcur hfb hl hnc hv
    go_enter Tryd.func77, Tryd.ntmps77
    go_wp2
    go_region_with (go_at_call 59; refine (H1.out _ _).mono ?_; rintro e w1 ⟨rfl, k, rfl⟩)
    all_goals go_wp2
    all_goals exact bodyPost_ret (v := .tuple #[]) (results_none rfl _ _ _) rfl (FIN.out _ _)

/-- What one pop of a kind has left. -/
def One (b : Bl) (p : Prg) (w : World) (g : Gh) (o : Obj) (S : List AV) (steps seed err : Int) (w' : World) : Prop :=
  w'.heap[w.heap.size]? = some o ∧ w.grownBy w' (some b.rb) ∧ ∃ g2, g2.S = S ∧ g2.F = g.F ∧ g2.fv = g.fv ∧ g2.tag = g.tag ∧ Mem b w' g2 ∧ Ch w g w' g2 ∧ RB b p w' g2.sv g2.fv steps seed false err
theorem One.of {b : Bl} {p : Prg} {w : World} {g : Gh} {o : Obj} {S : List AV} {v : Value} {steps seed err : Int} {e : Ending} {w' : World} (hm : Mem b w g) (hrb : b.rb < w.heap.size) (h : PopM b p (w.alloc o) g S v steps seed false err e w') : One b p w g o S steps seed err w' := by
  obtain ⟨_, h1, sv1, h2, h3⟩ := h
  refine ⟨?_, (grown_alloc w o _).trans h1, { g with S := S, sv := sv1 }, rfl, rfl, rfl, rfl, h3, (Ch.only hm ((grown_alloc w o _).trans h1)).retag rfl, h2⟩
  rw [h1.block _ (by simp) (by intro e; have : w.heap.size = b.rb := Option.some.inj e; omega)]
  exact al_new w o
/-- A pop of a kind with the instruction in a box. -/
theorem one_any (b : Bl) (p : Prg) (w : World) (g : Gh) (S : List AV) (x : AV) (k steps seed err : Int) (hm : Mem b w g) (hR : RB b p w g.sv g.fv steps seed false err) (hn : g.S.length ≤ 1000000) (h : g.S = S ++ [x]) (hk : x.kind = k) (o : Obj) :
    Calls Tryd.prog 79 #[.pointer (some ⟨b.rb, 0, none⟩), .int .i64 k] (w.alloc o) fun e w' => e = .returned x.v ∧ One b p w g o S steps seed err w' := by
  have := popK_ok b p (w.alloc o) g S x steps seed false err (hm.alloc o) (hR.alloc o) h hn
  rw [hk] at this
  exact this.mono fun e w' h => ⟨h.1, One.of hm hR.lt h⟩
theorem flt_any (b : Bl) (p : Prg) (w : World) (g : Gh) (k steps seed err : Int) (hm : Mem b w g) (hR : RB b p w g.sv g.fv steps seed false err) (hn : g.S.length ≤ 1000000) (h : popK k (ers g.S) = none) (o : Obj) :
    Calls Tryd.prog 79 #[.pointer (some ⟨b.rb, 0, none⟩), .int .i64 k] (w.alloc o) (EffP b p w g (.error 26) steps err) :=
  (popK_any b p (w.alloc o) g k steps seed false err (hm.alloc o) (hR.alloc o) hn).mono fun e w' hp => by
    unfold PopKP at hp
    rw [h] at hp
    exact EffP.flt (grown_alloc w o _) hp
/-- Where the current call lies. -/
structure Top (b : Bl) (w : World) (g : Gh) (f : Fr) (fb c ft : Nat) : Prop where
  hv : g.fv = .slice (some ⟨fb, 0, none⟩) g.F.length c
  hft : ft = (g.F.length - 1) * 3
  hB : b.B ≤ fb
  htg : g.tag fb = .own
  hlt : fb < w.heap.size
  hcur : ∃ cur, w.heap[fb]? = some (.cells cur 78 (0, 0))
  hc : ∀ i, i < 3 → w.cell? ⟨fb, ft + i, none⟩ = f.cs[i]?
theorem Mem.isTop {b : Bl} {w : World} {g : Gh} (hm : Mem b w g) {G : List Fr} {f : Fr} (hF : g.F = G ++ [f]) : ∃ fb c ft, Top b w g f fb c ft := by
  rcases hm.fform with ⟨_, h⟩ | ⟨fb, c, hv, _, hfb, hB, htg, hcur, hc⟩
  · rw [h] at hF; simp at hF
  · exact ⟨fb, c, _, hv, rfl, hB, htg, hfb, hcur, fun i hi => hc _ f (by rw [hF]; simp) i hi⟩
theorem Top.at {b : Bl} {w w' : World} {g g' : Gh} {f : Fr} {fb c ft : Nat} (h : Top b w g f fb c ft) (he : w'.heap[fb]? = w.heap[fb]?) (h1 : g'.fv = g.fv) (h2 : g'.F = g.F) (h3 : g'.tag = g.tag) : Top b w' g' f fb c ft := by
  obtain ⟨cur, hc⟩ := h.hcur
  exact ⟨by rw [h1, h2]; exact h.hv, by rw [h2]; exact h.hft, h.hB, by rw [h3]; exact h.htg, heap_lt (he.trans hc), ⟨cur, he.trans hc⟩, fun i hi => (World.cell?_of_block (w := w) he).trans (h.hc i hi)⟩
theorem Top.fz {b : Bl} {w : World} {g : Gh} {f : Fr} {fb c ft : Nat} (h : Top b w g f fb c ft) (j : Nat) : w.frozen? ⟨fb, j, none⟩ = false := by
  obtain ⟨cur, hc⟩ := h.hcur
  simp [World.frozen?, hc]
/-- What a walk with one pop ahead needs of the current call. -/
theorem One.top {b : Bl} {p : Prg} {w : World} {g : Gh} {o : Obj} {S : List AV} {steps seed err : Int} {w' : World} (h : One b p w g o S steps seed err w') {f : Fr} {fb c ft : Nat} (ht : Top b w g f fb c ft) (hne : b.rb ≠ fb) (hn : 0 < g.F.length) (hn2 : g.F.length ≤ 1000000) :
    w'.cell? ⟨b.tb, 0, none⟩ = some (.pointer (some ⟨b.rb, 0, none⟩)) ∧ (∀ i, i < 3 → w'.cell? ⟨fb, ft + i, none⟩ = f.cs[i]?) ∧ (∀ j, w'.frozen? ⟨fb, j, none⟩ = false) ∧
    ∀ k, Calls Tryd.prog 59 #[.pointer (some ⟨b.rb, 0, none⟩)] (w'.drewN k) fun e w2 => e = .returned (.pointer (some ⟨fb, ft, none⟩)) ∧ ∃ k', w2 = (w'.drewN k).drewN k' := by
  obtain ⟨_, h1, g2, e1, e2, e3, e4, h2, h3, h4⟩ := h
  have ht2 := ht.at (w' := w') (g' := g2) (h1.block _ ht.hlt (by intro e; exact hne (Option.some.inj e).symm)) e3 e2 e4
  refine ⟨tb_cell h2, ht2.hc, ht2.fz, fun k => ?_⟩
  have := top_mem b p (w'.drewN k) g2 steps seed false err fb c h4 ht2.hv (by rw [e2]; exact hn) (by rw [e2]; exact hn2)
  rw [ht2.hft]
  exact this

set_option maxRecDepth 100000 in
set_option maxHeartbeats 1000000 in
theorem false_flt (b : Bl) (p : Prg) (op xa xb : Int) (name : T) (w : World) (g : Gh) (steps seed err : Int) (hm : Mem b w g) (hR : RB b p w g.sv g.fv steps seed false err) (hn : g.S.length ≤ 1000000) (h : popK 2 (ers g.S) = none) :
    Calls Tryd.prog 78 #[.agg #[iv op, iv xa, iv xb, tv name], .pointer (some ⟨b.tb, 0, none⟩)] w (EffP b p w g (.error 26) steps err) := by
  have H1 := Lib.hid (flt_any b p w g 2 steps seed err hm hR hn h)
  have ct := fun o => tb_cell' hm o
  clear hm hR hn h
  go_enter Tryd.func78, Tryd.ntmps78
  go_wp2_with (go_at_call 79; refine (H1.out _).mono ?_; intro e w1 k1; obtain ⟨rfl, k2⟩ := id k1; have K1 := Lib.hid k1; clear k1 k2)
  exact ⟨rfl, K1.out⟩
set_option maxRecDepth 100000 in
set_option maxHeartbeats 1000000 in
theorem false_no (b : Bl) (p : Prg) (op xa xb : Int) (name : T) (w : World) (g : Gh) (S : List AV) (x : AV) (steps seed err : Int) (hm : Mem b w g) (hR : RB b p w g.sv g.fv steps seed false err) (hn : g.S.length ≤ 1000000) (h : g.S = S ++ [x]) (hk : x.kind = 2) (hz : (x.int == 0) = false) :
    Calls Tryd.prog 78 #[.agg #[iv op, iv xa, iv xb, tv name], .pointer (some ⟨b.tb, 0, none⟩)] w (EffP b p w g (.ok ⟨ers S, g.F.map Fr.er, seed, false⟩) steps err) := by
  have H1 := Lib.hid (one_any b p w g S x 2 steps seed err hm hR hn h hk)
  have ct := fun o => tb_cell' hm o
  have fin : ∀ o w', One b p w g o S steps seed err w' → EffP b p w g (.ok ⟨ers S, g.F.map Fr.er, seed, false⟩) steps err (.returned (.tuple #[])) w' := fun o w' ⟨_, h1, g2, e1, e2, e3, e4, h2, h3, h4⟩ => EffP.mk h2 h3 h4 (by rw [e1]) (by rw [e2])
  have FIN := Lib.hid fin
  have hf := fld1
  clear fin hm hR hn h hk
  unfold AV.v at H1
  generalize x.int = X1 at *
  go_enter Tryd.func78, Tryd.ntmps78
  go_wp2_with (go_at_call 79; refine (H1.out _).mono ?_; rintro e w1 ⟨rfl, k1⟩; have K1 := Lib.hid k1; clear k1)
  exact bodyPost_ret (v := .tuple #[]) (results_none rfl _ _ _) rfl (FIN.out _ _ K1.out)
set_option maxRecDepth 100000 in
set_option maxHeartbeats 1000000 in
theorem false_yes (b : Bl) (p : Prg) (op xa xb : Int) (name : T) (w : World) (g : Gh) (S : List AV) (x : AV) (G : List Fr) (f : Fr) (steps seed err : Int) (hm : Mem b w g) (hR : RB b p w g.sv g.fv steps seed false err) (hn : g.S.length ≤ 1000000) (h : g.S = S ++ [x]) (hk : x.kind = 2) (hz : x.int = 0) (hF : g.F = G ++ [f]) (hn2 : g.F.length ≤ 1000000) :
    Calls Tryd.prog 78 #[.agg #[iv op, iv xa, iv xb, tv name], .pointer (some ⟨b.tb, 0, none⟩)] w (EffP b p w g (.ok ⟨ers S, G.map Fr.er ++ [{ f.er with at_ := xa }], seed, false⟩) steps err) := by
  obtain ⟨fb, c, ft, ht⟩ := hm.isTop hF
  obtain ⟨cur, hcur⟩ := ht.hcur
  have hne := fb_ne hR hcur
  have hl : g.F.length = G.length + 1 := by rw [hF]; simp
  have H1 := Lib.hid (one_any b p w g S x 2 steps seed err hm hR hn h hk)
  have ct := fun o => tb_cell' hm o
  have TOP := Lib.hid (fun (o : Obj) (w' : World) (h : One b p w g o S steps seed err w') => h.top ht hne (by omega) hn2)
  have fin : ∀ o w' k, One b p w g o S steps seed err w' → EffP b p w g (.ok ⟨ers S, G.map Fr.er ++ [{ f.er with at_ := xa }], seed, false⟩) steps err (.returned (.tuple #[])) ((w'.drewN k).setCell ⟨fb, ft + 1, none⟩ (iv xa)) := fun o w' k ⟨_, h1, g2, e1, e2, e3, e4, h2, h3, h4⟩ => by
    have := EffP.jump (w := w) (g := g) (f := f) (a := xa) (h2.drewN k) (h3.trans (Ch.grown (grown_drewN w' k none))) h4 (by rw [e2, hF]) (by rw [e3, e2]; exact ht.hv) hne
    rw [e1, e2, ← ht.hft] at this
    exact this
  have FIN := Lib.hid fin
  have hf := fld1
  clear fin hm hR hn h hk hF hn2 hl ht hcur
  unfold AV.v at H1
  generalize x.int = X1 at *
  subst hz
  go_enter Tryd.func78, Tryd.ntmps78
  go_wp2_with (go_at_call 79; refine (H1.out _).mono ?_; rintro e w1 ⟨rfl, k1⟩; obtain ⟨t1, t2, t3, t4⟩ := TOP.out _ _ k1; have T4 := Lib.hid t4; have c1 := t2 1 (by omega); simp [Fr.cs] at c1; have kb := k1.1; have b1 := Lib.cell_of_heap kb 1; simp at b1; have K1 := Lib.hid k1; clear k1 t4 t2 kb)
  go_region_with (go_at_call 59; refine (T4.out _).mono ?_; rintro e w2 ⟨rfl, k, rfl⟩)
  all_goals go_wp2
  all_goals exact bodyPost_ret (v := .tuple #[]) (results_none rfl _ _ _) rfl (FIN.out _ _ _ K1.out)
end Go.Proofs.YtdfllhmkgphcmaaDoor
namespace Go.Proofs.YtdfllhmkgphcmaaDoor
open Go.RowKit

theorem LRd.at8 {B : Nat} {tag : Nat → Tag} {w : World} {A : Option Addr} {c : Nat} {L : List AV} (h : LRd B tag w A c L) {j : Nat} {x : AV} (hj : L[j]? = some x) : ∃ a a1 : Addr, A = some a ∧ a.add (j * 8) = a1 ∧ a1.block < w.heap.size ∧ w.cell? a1 = some (.int .i64 x.kind) ∧ w.cell? ⟨a1.block, a1.off + 1, none⟩ = some (.int .i64 x.int) ∧ w.cell? ⟨a1.block, a1.off + 2, none⟩ = some (.slice x.A x.list.length x.c) ∧
    w.cell? ⟨a1.block, a1.off + 3, none⟩ = some (.int .i64 x.block) ∧ w.cell? ⟨a1.block, a1.off + 4, none⟩ = some (.string ⟨#[]⟩) ∧ w.cell? ⟨a1.block, a1.off + 5, none⟩ = some (.string ⟨#[]⟩) ∧ w.cell? ⟨a1.block, a1.off + 6, none⟩ = some (.slice none 0 0) ∧ w.cell? ⟨a1.block, a1.off + 7, none⟩ = some (.slice none 0 0) := by
  have hlt : j < L.length := by
    rcases Nat.lt_or_ge j L.length with h' | h'
    · exact h'
    · rw [List.getElem?_eq_none h'] at hj; cases hj
  cases hA : A with
  | none => have := h.h0 hA; have := h.hc; omega
  | some a =>
    have hx := fun i v (hi : x.cs[i]? = some v) => (h.hx a hA j x hj i v hi).1
    refine ⟨a, _, rfl, rfl, by rw [add_block]; exact h.hb a hA, by simpa using hx 0 _ rfl, ?_, ?_, ?_, ?_, ?_, ?_, ?_⟩
    · rw [← fld_add _ 1 (by omega), add_add']; exact hx 1 _ rfl
    · rw [← fld_add _ 2 (by omega), add_add']; exact hx 2 _ rfl
    · rw [← fld_add _ 3 (by omega), add_add']; exact hx 3 _ rfl
    · rw [← fld_add _ 4 (by omega), add_add']; exact hx 4 _ rfl
    · rw [← fld_add _ 5 (by omega), add_add']; exact hx 5 _ rfl
    · rw [← fld_add _ 6 (by omega), add_add']; exact hx 6 _ rfl
    · rw [← fld_add _ 7 (by omega), add_add']; exact hx 7 _ rfl

/-- The eight cells of a value. -/
def C8 (w : World) (q : Addr) (x : AV) : Prop := w.cell? q = some (.int .i64 x.kind) ∧ w.cell? ⟨q.block, q.off + 1, none⟩ = some (.int .i64 x.int) ∧ w.cell? ⟨q.block, q.off + 2, none⟩ = some (.slice x.A x.list.length x.c) ∧ w.cell? ⟨q.block, q.off + 3, none⟩ = some (.int .i64 x.block) ∧ w.cell? ⟨q.block, q.off + 4, none⟩ = some (.string ⟨#[]⟩) ∧ w.cell? ⟨q.block, q.off + 5, none⟩ = some (.string ⟨#[]⟩) ∧ w.cell? ⟨q.block, q.off + 6, none⟩ = some (.slice none 0 0) ∧ w.cell? ⟨q.block, q.off + 7, none⟩ = some (.slice none 0 0)
theorem C8.alloc {w : World} {q : Addr} {x : AV} (h : C8 w q x) (hb : q.block < w.heap.size) (o : Obj) : C8 (w.alloc o) q x := by
  obtain ⟨p0, p1, p2, p3, p4, p5, p6, p7⟩ := h
  exact ⟨cell_al p0 hb o, cell_al p1 hb o, cell_al p2 hb o, cell_al p3 hb o, cell_al p4 hb o, cell_al p5 hb o, cell_al p6 hb o, cell_al p7 hb o⟩
section
variable {o : Oper} {a : Act} {w : World}
theorem op_load8 {x : Tmp} {q : Addr} {v : AV} (hd : o.dst.isSome = true) (ho : o.op = .load 54 (.tmp x)) (h : a.eval (.tmp x) = .pointer (some q)) (hc : C8 w q v) : (execOp a.eval o).run Tryd.prog w = .ok (nx o v.v) w := by
  rw [nx_some hd]
  obtain ⟨q0, q1, q2, q3, q4, q5, q6, q7⟩ := hc
  unfold AV.v
  clear hd
  unfold Act.eval at h
  obtain ⟨d, op, t, p, af, g⟩ := o
  simp only at ho
  subst ho
  go_simp
theorem op_indexA {x y : Tmp} {T : TypeId} {sz n c : Nat} {q r : Addr} {k : Nat} {ki : Int} (hr : q.add (k * sz) = r) (hd : o.dst.isSome = true) (hT : (T = 33 ∧ sz = 8) ∨ (T = 34 ∧ sz = 3) ∨ (T = 22 ∧ sz = 3) ∨ (T = 41 ∧ sz = 4)) (ho : o.op = .indexAddr T (.tmp x) (.tmp y)) (h : a.eval (.tmp x) = .slice (some q) n c) (h' : a.eval (.tmp y) = .int .i64 ki) (hki : ki = k) (hk : k < n) : (execOp a.eval o).run Tryd.prog w = .ok (nx o (.pointer (some r))) w := by
  rw [nx_some hd]
  subst hki hr
  unfold Act.eval at h h'
  obtain ⟨d, op, t, ps, af, gu⟩ := o
  simp only at ho
  subst ho
  have t1 : (0 : Int) ≤ k := by omega
  have t2 : (k : Int) < n := by omega
  have t3 : ((k : Int)).toNat = k := by omega
  rcases hT with ⟨rfl, rfl⟩ | ⟨rfl, rfl⟩ | ⟨rfl, rfl⟩ | ⟨rfl, rfl⟩ <;> go_simp
end

set_option maxRecDepth 100000 in
set_option maxHeartbeats 1000000 in
theorem local_flt (b : Bl) (p : Prg) (op xa xb : Int) (name : T) (w : World) (g : Gh) (G : List Fr) (f : Fr) (steps seed err : Int) (hm : Mem b w g) (hR : RB b p w g.sv g.fv steps seed false err) (hF : g.F = G ++ [f]) (hn : g.F.length ≤ 1000000) (h : (f.L.length : Int) ≤ xa) :
    Calls Tryd.prog 71 #[.pointer (some ⟨b.rb, 0, none⟩), .agg #[iv op, iv xa, iv xb, tv name]] w (EffP b p w g (.error 26) steps err) := by
  obtain ⟨fb, c, ft, ht⟩ := hm.isTop hF
  have hl : g.F.length = G.length + 1 := by rw [hF]; simp
  have C1 := fun (o : Obj) (k : Nat) => top_mem b p ((w.alloc o).drewN k) g steps seed false err fb c (hR.alloc o) ht.hv (by omega) hn
  rw [← ht.hft] at C1
  have fin : ∀ o k, EffP b p w g (.error 26) steps err (.panicked (stopC 26)) ((w.alloc o).drewN k) := fun o k => EffP.flt (w1 := w) (grown_weak (World.grownBy.refl w none) _) ⟨rfl, (grown_alloc w o _).trans (grown_drewN _ k _), _, _, _, hR.alloc o⟩
  have q2 := fun o => cell_al (ht.hc 2 (by omega)) ht.hlt o
  have H1 := Lib.hid C1
  have FIN := Lib.hid fin
  have FA := Lib.hid (fun W => fault_any 26 W)
  clear C1 fin hm hR hF hn hl ht
  go_enter Tryd.func71, Tryd.ntmps71
  go_wp2_with (go_at_call 59; refine (H1.out _ 0).mono ?_; rintro e w1 ⟨rfl, k, rfl⟩)
  go_quiet (fail)
  go_wp2_with (go_at_call 58; refine (FA.out _).mono ?_; rintro e w1 ⟨rfl, rfl⟩)
  exact ⟨rfl, FIN.out _ _⟩
set_option maxRecDepth 100000 in
set_option maxHeartbeats 1000000 in
theorem local_ok (b : Bl) (p : Prg) (op xa xb : Int) (name : T) (w : World) (g : Gh) (G : List Fr) (f : Fr) (v : AV) (j : Nat) (steps seed err : Int) (hm : Mem b w g) (hR : RB b p w g.sv g.fv steps seed false err) (hF : g.F = G ++ [f]) (hn : g.F.length ≤ 1000000) (hn2 : g.S.length ≤ 1000000) (h : f.L[j]? = some v) (hj : xa = j) :
    Calls Tryd.prog 71 #[.pointer (some ⟨b.rb, 0, none⟩), .agg #[iv op, iv xa, iv xb, tv name]] w (EffP b p w g (.ok ⟨ers g.S ++ [v.er], g.F.map Fr.er, seed, false⟩) steps err) := by
  subst hj
  obtain ⟨fb, c, ft, ht⟩ := hm.isTop hF
  have hl : g.F.length = G.length + 1 := by rw [hF]; simp
  have hlt : j < f.L.length := by
    rcases Nat.lt_or_ge j f.L.length with h' | h'
    · exact h'
    · rw [List.getElem?_eq_none h'] at h; cases h
  have C1 := fun (o : Obj) (k : Nat) => top_mem b p ((w.alloc o).drewN k) g steps seed false err fb c (hR.alloc o) ht.hv (by omega) hn
  rw [← ht.hft] at C1
  have hok := (hm.top hF).l
  have C2 : ∀ o k, Calls Tryd.prog 69 #[.pointer (some ⟨b.rb, 0, none⟩), v.v] ((w.alloc o).drewN k) (EffP b p w g (.ok ⟨ers g.S ++ [v.er], g.F.map Fr.er, seed, false⟩) steps err) := fun o k => by
    have m2 := (hm.alloc o).drewN k
    refine (push_any b p v ((w.alloc o).drewN k) g steps seed false err m2 (hR.alloc o) ((m2.top hF).l.hr v (List.mem_of_getElem? h)) hn2).mono fun e w' hp => ?_
    exact EffP.push hp (Ch.grown ((grown_alloc w o _).trans (grown_drewN _ k _))) rfl
  obtain ⟨a, a1, eA, ea, hab, p0, p1, p2, p3, p4, p5, p6, p7⟩ := hok.at8 h
  have q2 := fun o => cell_al (ht.hc 2 (by omega)) ht.hlt o
  simp [eA] at q2
  have Z8 := fun o => Lib.hid (C8.alloc (w := w) (q := a1) (x := v) ⟨p0, p1, p2, p3, p4, p5, p6, p7⟩ hab o)
  have t1 : (j : Int) < (f.L.length : Int) := by omega
  have t2 : (0 : Int) ≤ (j : Int) := by omega
  have t3 : ((j : Int)).toNat = j := by omega
  have t4 : decide ((f.L.length : Int) ≤ (j : Int)) = false := by simp; omega
  have H1 := Lib.hid C1
  have H2 := Lib.hid C2
  clear C1 C2 hm hR hF hn hl ht hok p0 p1 p2 p3 p4 p5 p6 p7 h hn2 eA
  generalize f.L.length = N at *
  generalize v.er = VE at *
  go_enter Tryd.func71, Tryd.ntmps71
  go_wp2_with (go_at_call 59; refine (H1.out _ 0).mono ?_; rintro e w1 ⟨rfl, k, rfl⟩)
  go_quiet (fail)
  go_wp2
  refine wp_phase_tail [false, false, false, false, false, false, false, false, false] [[]] [Value.pointer (some ⟨b.rb, 0, none⟩), Value.pointer (some ⟨fb, ft, none⟩), Value.pointer (some ⟨fb, ft, none⟩), Value.pointer (some ⟨fb, ft + 2, none⟩), .slice (some a) N f.c, Value.pointer (some ⟨w.heap.size, 1, none⟩), iv j, .pointer (some a1), v.v] [_] 0 ⟨#[Value.pointer (some ⟨b.rb, 0, none⟩), Value.agg #[iv op, iv ↑j, iv xb, tv name], undef, Value.pointer (some ⟨w.heap.size, 0, none⟩), Value.pointer (some ⟨fb, ft, none⟩), Value.pointer (some ⟨b.rb, 0, none⟩), Value.pointer (some ⟨fb, ft, none⟩), Value.pointer (some ⟨w.heap.size, 1, none⟩), iv ↑j, Value.pointer (some ⟨fb, ft, none⟩), Value.pointer (some ⟨fb, ft, none⟩), Value.pointer (some ⟨fb, ft + 2, none⟩), Value.slice (some a) N f.c, Value.int IntKind.i64 ↑N, Value.bool (decide (N ≤ j)) , undef, Value.pointer (some ⟨b.rb, 0, none⟩), Value.pointer (some ⟨fb, ft, none⟩), Value.pointer (some ⟨fb, ft, none⟩), Value.pointer (some ⟨fb, ft + 2, none⟩), .slice (some a) N f.c, Value.pointer (some ⟨w.heap.size, 1, none⟩), iv j, .pointer (some a1), v.v, undef], []⟩ 9 (by decide) (by kernel_rfl) (by kernel_rfl) (by kernel_rfl) (by kernel_rfl) rfl (by kernel_rfl) (by kernel_rfl) (fun _ => by kernel_rfl) (fun _ => by kernel_rfl) rfl rfl ⟨?_, ?_, ?_, ?_, ?_, ?_, ?_, ?_, ?_, trivial⟩ rfl (by kernel_rfl) ?_
  · intro kk aa hk E
    have h0 : aa.eval (.tmp 0) = Value.pointer (some ⟨b.rb, 0, none⟩) := (E 0 (by kernel_rfl)).trans (by kernel_rfl)
    exact obl_pure (by kernel_rfl) rfl hk fun w => op_move rfl rfl h0
  · intro kk aa hk E
    have h4 : aa.eval (.tmp 4) = Value.pointer (some ⟨fb, ft, none⟩) := (E 4 (by kernel_rfl)).trans (by kernel_rfl)
    exact obl_pure (by kernel_rfl) rfl hk fun w => op_move rfl rfl h4
  · intro kk aa hk E
    have h17 : aa.eval (.tmp 17) = Value.pointer (some ⟨fb, ft, none⟩) := (E 17 (by kernel_rfl)).trans (by kernel_rfl)
    exact obl_pure (by kernel_rfl) rfl hk fun w => op_nil rfl rfl h17
  · intro kk aa hk E
    have h18 : aa.eval (.tmp 18) = Value.pointer (some ⟨fb, ft, none⟩) := (E 18 (by kernel_rfl)).trans (by kernel_rfl)
    exact obl_pure (by kernel_rfl) rfl hk fun w => op_fa (k := 2) rfl rfl rfl h18
  · intro kk aa hk E
    have h19 : aa.eval (.tmp 19) = Value.pointer (some ⟨fb, ft + 2, none⟩) := (E 19 (by kernel_rfl)).trans (by kernel_rfl)
    refine obl_read (ks := [0]) (by kernel_rfl) (by kernel_rfl) rfl hk ⟨?_, trivial⟩
    · intro w' hw; cases hw; exact op_load1 rfl (by decide) rfl h19 (q2 _)
  · intro kk aa hk E
    have h3 : aa.eval (.tmp 3) = Value.pointer (some ⟨w.heap.size, 0, none⟩) := (E 3 (by kernel_rfl)).trans (by kernel_rfl)
    exact obl_pure (by kernel_rfl) rfl hk fun w => op_fa (k := 1) rfl rfl rfl h3
  · intro kk aa hk E
    have h21 : aa.eval (.tmp 21) = Value.pointer (some ⟨w.heap.size, 1, none⟩) := (E 21 (by kernel_rfl)).trans (by kernel_rfl)
    refine obl_read (ks := [0]) (by kernel_rfl) (by kernel_rfl) rfl hk ⟨?_, trivial⟩
    · intro w' hw; cases hw; exact op_load1 rfl (by decide) rfl h21 (World.cell?_alloc_at _ _ _ _ rfl)
  · intro kk aa hk E
    have h20 : aa.eval (.tmp 20) = .slice (some a) N f.c := (E 20 (by kernel_rfl)).trans (by kernel_rfl)
    have h22 : aa.eval (.tmp 22) = iv j := (E 22 (by kernel_rfl)).trans (by kernel_rfl)
    exact obl_pure (by kernel_rfl) rfl hk fun w => op_indexA (sz := 8) (k := j) ea rfl (by decide) rfl h20 h22 rfl (by omega)
  · intro kk aa hk E
    have h23 : aa.eval (.tmp 23) = .pointer (some a1) := (E 23 (by kernel_rfl)).trans (by kernel_rfl)
    refine obl_read (ks := [0]) (by kernel_rfl) (by kernel_rfl) rfl hk ⟨?_, trivial⟩
    · intro w' hw; cases hw; exact op_load8 rfl rfl h23 (Z8 _).out
  go_wp2_with (go_at_call 69; refine (H2.out _ (k + nq + 1)).mono ?_; intro e w1 k1; obtain ⟨rfl, k2⟩ := id k1; have K1 := Lib.hid k1; clear k1 k2)
  exact bodyPost_ret (v := .tuple #[]) (results_none rfl _ _ _) rfl K1.out
end Go.Proofs.YtdfllhmkgphcmaaDoor
