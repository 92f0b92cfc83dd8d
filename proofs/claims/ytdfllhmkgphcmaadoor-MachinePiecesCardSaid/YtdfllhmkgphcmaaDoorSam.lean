/- Walks: programs compared with themselves. -/
import Derived.Test.YtdfllhmkgphcmaaDoorM9
import Derived.StillTailTactics
namespace Go.Proofs.YtdfllhmkgphcmaaDoor
open Go.RowKit

set_option maxRecDepth 100000 in
set_option maxHeartbeats 4000000 in
theorem sameI_any (A : Option Addr) (c : Nat) (L : List Ins) (w : World) (hR : RD 4 Ins.cs w A L) (hl : L.length ≤ 9223372036854775807) :
    Calls Tryd.prog 52 #[.slice A L.length c, .slice A L.length c] w fun e w' => e = .returned (.bool true) ∧ w.grownBy w' none := by
  have HR := Lib.hid (fun V (h : w.grownBy V none) => hR.below (below_of h))
  clear hR
  go_enter Tryd.func52, Tryd.ntmps52
  go_wp2
  go_loopw [5] (fun i V => ∃ k : Nat, k ≤ L.length ∧ i = .int .i64 k ∧ Hid (w.grownBy V none)) (fun i _ => L.length - (intOf i).toNat)
  case atStart => exact ⟨0, Nat.zero_le _, rfl, Lib.hid (World.grownBy.refl w _)⟩
  case round =>
    obtain ⟨k, hk, rfl, HG⟩ := hrel
    by_cases hlt : k < L.length
    · obtain ⟨a, a1, hA, ha, hab, c0, c1, c2, c3⟩ := (HR.out _ HG.out).ins hlt
      obtain ⟨x, hx⟩ : ∃ x, x = L[k] := ⟨_, rfl⟩
      rw [← hx] at c0 c1 c2 c3
      subst hA
      clear hx
      go_wp2
      go_quiet (fail)
      go_wp2
      exact ⟨⟨k + 1, by omega, by simp, Lib.hid (HG.out.trans (grown_drewN _ _ none))⟩, by simp [intOf]; omega⟩
    · obtain rfl : k = L.length := by omega
      go_wp2
      go_ret
      exact ⟨rfl, HG.out⟩
/-- Two boxes with one program. -/
structure P2 (p : Prg) (w V : World) : Prop where
  gr : w.grownBy V none
  o0 : V.heap[w.heap.size]? = some (.cells #[.slice p.bA p.bs.length p.bc, .slice p.sA p.ss.length p.sc] 25 (0, 0))
  o1 : V.heap[w.heap.size + 1]? = some (.cells #[.slice p.bA p.bs.length p.bc, .slice p.sA p.ss.length p.sc] 25 (0, 0))
theorem P2.of (p : Prg) (w : World) : P2 p w ((w.alloc (.cells #[.slice p.bA p.bs.length p.bc, .slice p.sA p.ss.length p.sc] 25)).alloc (.cells #[.slice p.bA p.bs.length p.bc, .slice p.sA p.ss.length p.sc] 25)) := by
  have h0 := al_new w (.cells #[.slice p.bA p.bs.length p.bc, .slice p.sA p.ss.length p.sc] 25)
  have h1 := al_new (w.alloc (.cells #[.slice p.bA p.bs.length p.bc, .slice p.sA p.ss.length p.sc] 25)) (.cells #[.slice p.bA p.bs.length p.bc, .slice p.sA p.ss.length p.sc] 25)
  rw [show (w.alloc (.cells #[.slice p.bA p.bs.length p.bc, .slice p.sA p.ss.length p.sc] 25)).heap.size = w.heap.size + 1 by simp] at h1
  exact ⟨(World.grownBy_alloc w _ none).trans (World.grownBy_alloc _ _ none), (Below.heap_alloc _ _ _ (heap_lt h0)).trans h0, h1⟩
theorem P2.grow {p : Prg} {w V V' : World} (h : P2 p w V) (g : V.grownBy V' none) : P2 p w V' := ⟨h.gr.trans g, (g.block _ (heap_lt h.o0) (by simp)).trans h.o0, (g.block _ (heap_lt h.o1) (by simp)).trans h.o1⟩
theorem P2.c {p : Prg} {w V : World} (h : P2 p w V) : V.cell? ⟨w.heap.size, 0, none⟩ = some (.slice p.bA p.bs.length p.bc) ∧ V.cell? ⟨w.heap.size, 1, none⟩ = some (.slice p.sA p.ss.length p.sc) ∧ V.cell? ⟨w.heap.size + 1, 0, none⟩ = some (.slice p.bA p.bs.length p.bc) ∧ V.cell? ⟨w.heap.size + 1, 1, none⟩ = some (.slice p.sA p.ss.length p.sc) := by
  refine ⟨?_, ?_, ?_, ?_⟩
  · rw [Lib.cell_of_heap h.o0]; rfl
  · rw [Lib.cell_of_heap h.o0]; rfl
  · rw [Lib.cell_of_heap h.o1]; rfl
  · rw [Lib.cell_of_heap h.o1]; rfl

set_option maxRecDepth 100000 in
set_option maxHeartbeats 8000000 in
theorem sameP_any (p : Prg) (w : World) (hp : p.Rd w) (hl : LenP p) : Calls Tryd.prog 34 #[p.v, p.v] w fun e w' => e = .returned (.bool true) ∧ w.grownBy w' none := by
  have HP := Lib.hid (fun V (h : P2 p w V) => hp.below (below_of h.gr))
  have HS := Lib.hid (fun V (h : P2 p w V) b (hb : b ∈ p.bs) => sameI_any b.A b.c b.ins V ((hp.below (below_of h.gr)).i b hb) (hl.i b hb))
  have P0 := Lib.hid (P2.of p w)
  have lb := hl.b
  have ls := hl.s
  clear hp hl
  unfold Prg.v at *
  go_enter Tryd.func34, Tryd.ntmps34
  go_wp2
  go_loopw [5] (fun i V => ∃ k : Nat, k ≤ p.bs.length ∧ i = .int .i64 k ∧ Hid (P2 p w V)) (fun i _ => p.bs.length - (intOf i).toNat)
  case atStart => exact ⟨0, Nat.zero_le _, rfl, P0⟩
  case round =>
    clear P0
    obtain ⟨k, hk, rfl, HG⟩ := hrel
    obtain ⟨b0, b1, b2, b3⟩ := HG.out.c
    by_cases hlt : k < p.bs.length
    · obtain ⟨a, a1, hA, ha, hab, c0, c1, c2⟩ := (HP.out _ HG.out).b.blk hlt
      obtain ⟨x, hx⟩ : ∃ x, x = p.bs[k] := ⟨_, rfl⟩
      have hxm : x ∈ p.bs := by rw [hx]; exact List.getElem_mem hlt
      have SI := Lib.hid (fun V (h : P2 p w V) => HS.out V h x hxm)
      rw [← hx] at c0 c1 c2
      rw [hA] at b0 b2
      clear hx hxm hA
      go_wp2
      go_still_tail 41, (by kernel_rfl)
      change wpList _ _ _ _ _ (World.drew _)
      have G1 := Lib.hid (HG.out.grow (grown_drew _))
      generalize World.drew _ = V1 at *
      go_wp2_with (first | (go_at_call 52; refine (SI.out _ G1.out).mono ?_; rintro e w6 ⟨rfl, g6⟩; have G6 := Lib.hid (G1.out.grow g6); clear g6))
      exact ⟨⟨k + 1, by omega, by simp, G6⟩, by simp [intOf]; omega⟩
    · obtain rfl : k = p.bs.length := by omega
      go_wp2
      go_loopw [6] (fun i V => ∃ k : Nat, k ≤ p.ss.length ∧ i = .int .i64 k ∧ Hid (P2 p w V)) (fun i _ => p.ss.length - (intOf i).toNat)
      case atStart => exact ⟨0, Nat.zero_le _, rfl, HG⟩
      case round =>
        clear HG b0 b1 b2 b3
        obtain ⟨k, hk, rfl, HG⟩ := hrel
        obtain ⟨b0, b1, b2, b3⟩ := HG.out.c
        by_cases hlt : k < p.ss.length
        · obtain ⟨a, a1, hA, ha, hab, c0, c1, c2⟩ := (HP.out _ HG.out).s.stt hlt
          obtain ⟨x, hx⟩ : ∃ x, x = p.ss[k] := ⟨_, rfl⟩
          rw [← hx] at c0 c1 c2
          rw [hA] at b1 b3
          clear hx hA
          go_wp2
          go_quiet (fail)
          go_wp2
          exact ⟨⟨k + 1, by omega, by simp, Lib.hid (HG.out.grow (grown_drewN _ _ none))⟩, by simp [intOf]; omega⟩
        · obtain rfl : k = p.ss.length := by omega
          go_wp2
          go_ret
          exact ⟨rfl, HG.out.gr⟩
end Go.Proofs.YtdfllhmkgphcmaaDoor
