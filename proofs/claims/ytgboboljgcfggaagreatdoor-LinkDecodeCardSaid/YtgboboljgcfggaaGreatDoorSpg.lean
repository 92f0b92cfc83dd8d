/- Walks: programs of equal plain parts compared. -/
import Derived.Test.YtgboboljgcfggaaGreatDoorM7
import Derived.StillTailTactics
namespace Go.Proofs.YtgboboljgcfggaaGreatDoor
open Go.RowKit Go.Maps

set_option maxRecDepth 100000 in
set_option maxHeartbeats 4000000 in
theorem sameI_any (A1 A2 : Option Addr) (c1 c2 : Nat) (L : List Ins) (w : World) (hR : RD 4 Ins.cs w A1 L) (hR2 : RD 4 Ins.cs w A2 L) (hl : L.length ≤ 9223372036854775807) :
    Calls Tryz.prog 30 #[.slice A1 L.length c1, .slice A2 L.length c2] w fun e w' => e = .returned (.bool true) ∧ Gr w w' := by
  obtain ⟨n, hn⟩ : ∃ n, L.length = n := ⟨_, rfl⟩
  have HN := Lib.hid hn
  have HR := Lib.hid (fun V (g : Gr w V) => hR.gr g)
  have HR2 := Lib.hid (fun V (g : Gr w V) => hR2.gr g)
  rw [hn] at hl ⊢
  clear hR hR2 hn
  go_enter Tryz.func30, Tryz.ntmps30
  go_wp2
  go_loopw [5] (fun i V => ∃ k : Nat, k ≤ n ∧ i = .int .i64 k ∧ Hid (Gr w V)) (fun i _ => n - (intOf i).toNat)
  case atStart => exact ⟨0, Nat.zero_le _, rfl, Lib.hid (gr_refl _)⟩
  case round =>
    obtain ⟨k, hk, rfl, HG⟩ := hrel
    by_cases hlt : k < n
    · obtain ⟨a, a1, hA, ha, hab, x0, x1, x2, x3⟩ := (HR.out _ HG.out).ins (k := k) (by rw [HN.out]; exact hlt)
      obtain ⟨b, b1, hB, hb, hbb, y0, y1, y2, y3⟩ := (HR2.out _ HG.out).ins (k := k) (by rw [HN.out]; exact hlt)
      obtain ⟨x, hx⟩ : ∃ x, L[k]'(by rw [HN.out]; exact hlt) = x := ⟨_, rfl⟩
      rw [hx] at x0 x1 x2 x3 y0 y1 y2 y3
      subst hA
      subst hB
      clear hx
      go_wp2
      go_quiet (fail)
      go_wp2
      exact ⟨⟨k + 1, by omega, by simp, Lib.hid (HG.out.trans (gr_drewN _ _))⟩, by simp [intOf]; omega⟩
    · obtain rfl : n = k := by omega
      go_wp2
      go_ret
      exact ⟨rfl, HG.out⟩
attribute [local irreducible] Calls in
set_option maxRecDepth 100000 in
set_option maxHeartbeats 8000000 in
theorem sameP_any (X Y : Prg) (w : World) (hX : X.Rd w) (hY : Y.Rd w) (eb : Y.bs.map Blk.pb = X.bs.map Blk.pb) (es : Y.ss = X.ss) (hbl : X.bs.length ≤ 9223372036854775807) (hsl : X.ss.length ≤ 9223372036854775807) (hil : ∀ b ∈ X.bs, b.ins.length ≤ 9223372036854775807) :
    Calls Tryz.prog 9 #[X.v, Y.v] w fun e w' => e = .returned (.bool true) ∧ Gr w w' := by
  unfold Prg.v
  obtain ⟨nb, hnb⟩ : ∃ m, X.bs.length = m := ⟨_, rfl⟩
  obtain ⟨ns, hns⟩ : ∃ m, X.ss.length = m := ⟨_, rfl⟩
  have hnb2 : Y.bs.length = nb := by have h := congrArg List.length eb; simp at h; omega
  have hns2 : Y.ss.length = ns := by rw [es]; exact hns
  have HX := Lib.hid (fun V (g : Gr w V) => hX.below (below_of g))
  have HY := Lib.hid (fun V (g : Gr w V) => hY.below (below_of g))
  have HB := Lib.hid eb
  have HS := Lib.hid es
  have NX := Lib.hid hnb
  have NY := Lib.hid hnb2
  have MX := Lib.hid hns
  have MY := Lib.hid hns2
  have HI := Lib.hid hil
  rw [hnb] at hbl
  rw [hns] at hsl
  rw [hnb, hns, hnb2, hns2]
  have GW := Lib.hid ((gr_al w (.cells #[.slice X.bA nb X.bc, .slice X.sA ns X.sc] 26)).trans (gr_al _ (.cells #[.slice Y.bA nb Y.bc, .slice Y.sA ns Y.sc] 26)))
  have HP := Lib.hid (fun V (g : Gr ((w.alloc (.cells #[.slice X.bA nb X.bc, .slice X.sA ns X.sc] 26)).alloc (.cells #[.slice Y.bA nb Y.bc, .slice Y.sA ns Y.sc] 26)) V) => (show V.cell? ⟨w.heap.size, 0, none⟩ = some (.slice X.bA nb X.bc) ∧ V.cell? ⟨w.heap.size, 1, none⟩ = some (.slice X.sA ns X.sc) ∧ V.cell? ⟨w.heap.size + 1, 0, none⟩ = some (.slice Y.bA nb Y.bc) ∧ V.cell? ⟨w.heap.size + 1, 1, none⟩ = some (.slice Y.sA ns Y.sc) from by
    have h := gr_h g (gr_h (gr_al _ _) (al_new w (.cells #[.slice X.bA nb X.bc, .slice X.sA ns X.sc] 26)))
    have h2 := gr_h g (al_at (w.alloc (.cells #[.slice X.bA nb X.bc, .slice X.sA ns X.sc] 26)) (.cells #[.slice Y.bA nb Y.bc, .slice Y.sA ns Y.sc] 26) (A := w.heap.size + 1) (by simp))
    exact ⟨by rw [Lib.cell_of_heap h]; rfl, by rw [Lib.cell_of_heap h]; rfl, by rw [Lib.cell_of_heap h2]; rfl, by rw [Lib.cell_of_heap h2]; rfl⟩))
  clear hX hY eb es hnb hns hnb2 hns2 hil
  obtain ⟨b0, b1, b2, b3⟩ := HP.out _ (gr_refl _)
  go_enter Tryz.func9, Tryz.ntmps9
  go_upto_region 3 with (fail)
  generalize (w.alloc (.cells #[.slice X.bA nb X.bc, .slice X.sA ns X.sc] 26)).alloc (.cells #[.slice Y.bA nb Y.bc, .slice Y.sA ns Y.sc] 26) = W0 at *
  go_upto_region 4 with (fail)
  go_loopw [5] (fun i V => ∃ k : Nat, k ≤ nb ∧ i = .int .i64 k ∧ Hid (Gr W0 V)) (fun i _ => nb - (intOf i).toNat)
  case atStart => exact ⟨0, Nat.zero_le _, rfl, Lib.hid (gr_refl _)⟩
  case round =>
    clear b0 b1 b2 b3
    obtain ⟨k, hk, rfl, HG⟩ := hrel
    obtain ⟨b0, b1, b2, b3⟩ := HP.out _ HG.out
    by_cases hlt : k < nb
    · have hXR := HX.out _ (GW.out.trans HG.out)
      have hYR := HY.out _ (GW.out.trans HG.out)
      obtain ⟨a, a1, hA, ha, hab, x0, x1, x2⟩ := hXR.b.blk (k := k) (by rw [NX.out]; exact hlt)
      obtain ⟨c, c1, hC, hc, hcb, y0, y1, y2⟩ := hYR.b.blk (k := k) (by rw [NY.out]; exact hlt)
      obtain ⟨x, hx⟩ : ∃ x, X.bs[k]'(by rw [NX.out]; exact hlt) = x := ⟨_, rfl⟩
      obtain ⟨y, hy⟩ : ∃ y, Y.bs[k]'(by rw [NY.out]; exact hlt) = y := ⟨_, rfl⟩
      have hxm : x ∈ X.bs := by rw [← hx]; exact List.getElem_mem _
      have hym : y ∈ Y.bs := by rw [← hy]; exact List.getElem_mem _
      have hpb : y.pb = x.pb := by
        have h := congrArg (fun l => l[k]?) HB.out
        simp only [List.getElem?_map, List.getElem?_eq_getElem (show k < X.bs.length by rw [NX.out]; exact hlt), List.getElem?_eq_getElem (show k < Y.bs.length by rw [NY.out]; exact hlt), Option.map_some, Option.some.injEq, hx, hy] at h
        exact h
      obtain ⟨p1, p2, p3⟩ := pb_eq hpb
      rw [hx] at x0 x1 x2
      rw [hy, p1] at y0
      rw [hy, p2] at y1
      rw [hy, p3] at y2
      obtain ⟨m, hm⟩ : ∃ m, x.ins.length = m := ⟨_, rfl⟩
      rw [hm] at x2 y2
      have SI := Lib.hid (fun V (g : Gr wr V) => show Calls Tryz.prog 30 #[.slice x.A m x.c, .slice y.A m y.c] V (fun e w' => e = .returned (.bool true) ∧ Gr V w') from by
        have h := sameI_any x.A y.A x.c y.c x.ins V ((hXR.i x hxm).gr g) (by have h := (hYR.i y hym).gr g; rw [p3] at h; exact h) (HI.out x hxm)
        rw [hm] at h
        exact h)
      rw [hA] at b0
      rw [hC] at b2
      clear hx hy hxm hym hpb p1 p2 p3 hA hC hXR hYR hm
      go_wp2
      go_still_tail 41, (by kernel_rfl)
      change wpList _ _ _ _ _ (World.drew _)
      have G1 := Lib.hid (gr_drew wr)
      generalize World.drew _ = V1 at *
      go_wp2_with (go_at_call 30; refine (SI.out _ G1.out).mono ?_; rintro e w6 ⟨rfl, g6⟩; have G6 := Lib.hid g6; clear g6)
      exact ⟨⟨k + 1, by omega, by simp, Lib.hid (HG.out.trans (G1.out.trans G6.out))⟩, by simp [intOf]; omega⟩
    · obtain rfl : nb = k := by omega
      go_upto_region 9 with (fail)
      go_loopw [6] (fun i V => ∃ k : Nat, k ≤ ns ∧ i = .int .i64 k ∧ Hid (Gr W0 V)) (fun i _ => ns - (intOf i).toNat)
      case atStart => exact ⟨0, Nat.zero_le _, rfl, HG⟩
      case round =>
        clear HG b0 b1 b2 b3
        obtain ⟨k, hk, rfl, HG⟩ := hrel
        obtain ⟨b0, b1, b2, b3⟩ := HP.out _ HG.out
        by_cases hlt : k < ns
        · obtain ⟨a, a1, hA, ha, hab, x0, x1, x2⟩ := (HX.out _ (GW.out.trans HG.out)).s.stt (k := k) (by rw [MX.out]; exact hlt)
          have hYR := (HY.out _ (GW.out.trans HG.out)).s
          rw [HS.out] at hYR
          obtain ⟨c, c1, hC, hc, hcb, y0, y1, y2⟩ := hYR.stt (k := k) (by rw [MX.out]; exact hlt)
          obtain ⟨x, hx⟩ : ∃ x, X.ss[k]'(by rw [MX.out]; exact hlt) = x := ⟨_, rfl⟩
          rw [hx] at x0 x1 x2 y0 y1 y2
          rw [hA] at b1
          rw [hC] at b3
          clear hx hA hC hYR
          go_wp2
          go_quiet (fail)
          go_wp2
          exact ⟨⟨k + 1, by omega, by simp, Lib.hid (HG.out.trans (gr_drewN _ _))⟩, by simp [intOf]; omega⟩
        · obtain rfl : ns = k := by omega
          go_wp2
          go_ret
          exact ⟨rfl, GW.out.trans HG.out⟩
end Go.Proofs.YtgboboljgcfggaaGreatDoor
