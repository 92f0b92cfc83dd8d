/- Walks: the bounds of the statements. -/
import Derived.Test.YtgboboljgcfggaaGreatDoorM7
namespace Go.Proofs.YtgboboljgcfggaaGreatDoor
open Go.RowKit

/-- A program within the bounds. -/
structure SmP (p : Prg) : Prop where
  n : ∀ b ∈ p.bs, ∀ x ∈ b.ins, x.name.length ≤ 100
  k : ∀ s ∈ p.ss, s.pack.length ≤ 200
  c : cntW p.bs ≤ 150
  b : p.bs.length ≤ 30
  s : p.ss.length ≤ 10

def GrP (p : Prg) (e : Ending) : Prop := ∃ g, e = .returned (.bool g) ∧ (g = false ↔ SmP p)
theorem gr_no {p : Prg} (h : ¬ SmP p) : GrP p (.returned (.bool true)) := ⟨true, rfl, ⟨fun e => Bool.noConfusion e, fun s => absurd s h⟩⟩

set_option maxRecDepth 100000 in
set_option maxHeartbeats 8000000 in
theorem greatP_any (p : Prg) (w : World) (hp : p.Rd w) (hb : p.bs.length ≤ 9223372036854775807) (hs : p.ss.length ≤ 9223372036854775807) (hi : ∀ b ∈ p.bs, b.ins.length ≤ 9223372036854775807) :
    Calls Tryz.prog 10 #[p.v] w fun e w' => GrP p e ∧ Below w.heap.size w w' := by
  unfold Prg.v
  obtain ⟨W, hW⟩ : ∃ W, W = w.alloc (.cells #[.slice p.bA p.bs.length p.bc, .slice p.sA p.ss.length p.sc] 26) := ⟨_, rfl⟩
  have hB0 : Below w.heap.size w W := by rw [hW]; exact (Below.refl _ _).alloc (Nat.le_refl _) _
  have hbx : W.heap[w.heap.size]? = some (.cells #[.slice p.bA p.bs.length p.bc, .slice p.sA p.ss.length p.sc] 26 (0, 0)) := by rw [hW]; exact al_new w _
  have y0 : W.cell? ⟨w.heap.size, 0, none⟩ = some (.slice p.bA p.bs.length p.bc) := by rw [Lib.cell_of_heap hbx]; rfl
  have y1 : W.cell? ⟨w.heap.size, 1, none⟩ = some (.slice p.sA p.ss.length p.sc) := by rw [Lib.cell_of_heap hbx]; rfl
  have HP := Lib.hid (hp.below hB0)
  have HB0 := Lib.hid hB0
  have HW := Lib.hid hW
  have HI := Lib.hid hi
  clear hW hB0 hbx hp hi
  go_enter Tryz.func10, Tryz.ntmps10
  go_wp2
  rw [← HW.out]
  go_loopw [3, 4, 5] (fun c i _ wr => ∃ k : Nat, k ≤ p.bs.length ∧ i = .int .i64 k ∧ c = .int .i64 (cntW (p.bs.take k)) ∧ wr = W ∧ Hid (∀ b ∈ p.bs.take k, ∀ x ∈ b.ins, x.name.length ≤ 100)) (fun _ i _ _ => p.bs.length - (intOf i).toNat)
  case atStart => exact ⟨0, Nat.zero_le _, rfl, rfl, rfl, Lib.hid (by simp)⟩
  case round =>
    obtain ⟨k, hk, rfl, rfl, rfl, HN⟩ := hrel
    by_cases hlt : k < p.bs.length
    · obtain ⟨a, a1, hA, ha, hab, c0, c1, c2⟩ := HP.out.b.blk hlt
      have HCS := Lib.hid (cntW_succ hlt)
      obtain ⟨blk, hblk⟩ : ∃ blk, blk = p.bs[k] := ⟨_, rfl⟩
      rw [← hblk] at c0 c1 c2
      have hbm : blk ∈ p.bs := by rw [hblk]; exact List.getElem_mem hlt
      have hil := HI.out blk hbm
      have HBI := Lib.hid (HP.out.i blk hbm)
      have HBK := Lib.hid hblk
      rw [hA] at y0
      rw [← hblk] at HCS
      clear hA hbm hblk
      go_wp2
      go_loopw [5] (fun i wr' => ∃ j : Nat, j ≤ blk.ins.length ∧ i = .int .i64 j ∧ wr' = wr ∧ Hid (∀ x ∈ blk.ins.take j, x.name.length ≤ 100)) (fun i _ => blk.ins.length - (intOf i).toNat)
      case atStart => exact ⟨0, Nat.zero_le _, rfl, rfl, Lib.hid (by simp)⟩
      case round =>
        obtain ⟨j, hj, rfl, rfl, HJ⟩ := hrel
        by_cases hjl : j < blk.ins.length
        · obtain ⟨b', b1, hbA, hb1, hbb, i0, i1, i2, i3⟩ := HBI.out.ins hjl
          obtain ⟨x, hx⟩ : ∃ x, x = blk.ins[j] := ⟨_, rfl⟩
          rw [← hx] at i0 i1 i2 i3
          rw [hbA] at c2
          have HX := Lib.hid hx
          clear hbA hx i0 i1 i2
          by_cases hn : 100 < x.name.length
          · have z : (100 : Int) < (x.name.length : Int) := by omega
            go_wp2
            go_ret
            exact ⟨gr_no fun h => absurd (h.n blk (by rw [HBK.out]; exact List.getElem_mem hlt) x (by rw [HX.out]; exact List.getElem_mem hjl)) (by omega), HB0.out⟩
          · have z : ¬ (100 : Int) < (x.name.length : Int) := by omega
            go_wp2
            refine ⟨⟨j + 1, by omega, by simp, trivial, Lib.hid fun q hq => ?_⟩, by simp [intOf]; omega⟩
            rw [List.take_succ_eq_append_getElem hjl, ← HX.out] at hq
            rcases List.mem_append.1 hq with h | h
            · exact HJ.out q h
            · rw [List.mem_singleton.1 h]; omega
        · obtain rfl : j = blk.ins.length := by omega
          go_wp2
          refine ⟨⟨k + 1, by omega, by simp, by rw [HCS.out], trivial, Lib.hid fun q hq => ?_⟩, by simp [intOf]; omega⟩
          rw [List.take_succ_eq_append_getElem hlt, ← HBK.out] at hq
          rcases List.mem_append.1 hq with h | h
          · exact HN.out q h
          · rw [List.mem_singleton.1 h]; have h2 := HJ.out; rw [List.take_length] at h2; exact h2
    · obtain rfl : k = p.bs.length := by omega
      have h0 := HN.out
      rw [List.take_length] at h0
      have HN := Lib.hid h0
      rw [List.take_length]
      clear h0
      go_wp2
      go_loopw [6] (fun i wr' => ∃ k : Nat, k ≤ p.ss.length ∧ i = .int .i64 k ∧ wr' = wr ∧ Hid (∀ s ∈ p.ss.take k, s.pack.length ≤ 200)) (fun i _ => p.ss.length - (intOf i).toNat)
      case atStart => exact ⟨0, Nat.zero_le _, rfl, rfl, Lib.hid (by simp)⟩
      case round =>
        obtain ⟨k, hk, rfl, rfl, HK⟩ := hrel
        by_cases hlt : k < p.ss.length
        · obtain ⟨a, a1, hA, ha, hab, c0, c1, c2⟩ := HP.out.s.stt hlt
          obtain ⟨s, hs'⟩ : ∃ s, s = p.ss[k] := ⟨_, rfl⟩
          rw [← hs'] at c0 c1 c2
          rw [hA] at y1
          have HX := Lib.hid hs'
          clear hA hs'
          by_cases hn : 200 < s.pack.length
          · have z : (200 : Int) < (s.pack.length : Int) := by omega
            go_wp2
            go_ret
            exact ⟨gr_no fun h => absurd (h.k s (by rw [HX.out]; exact List.getElem_mem hlt)) (by omega), HB0.out⟩
          · have z : ¬ (200 : Int) < (s.pack.length : Int) := by omega
            go_wp2
            refine ⟨⟨k + 1, by omega, by simp, trivial, Lib.hid fun q hq => ?_⟩, by simp [intOf]; omega⟩
            rw [List.take_succ_eq_append_getElem hlt, ← HX.out] at hq
            rcases List.mem_append.1 hq with h | h
            · exact HK.out q h
            · rw [List.mem_singleton.1 h]; omega
        · obtain rfl : k = p.ss.length := by omega
          have h0 := HK.out
          rw [List.take_length] at h0
          have HK := Lib.hid h0
          clear h0
          by_cases h1 : 150 < cntW p.bs
          · go_wp2
            go_ret
            exact ⟨gr_no fun h => absurd h.c (by omega), HB0.out⟩
          · by_cases h2 : 30 < p.bs.length
            · have z : (30 : Int) < (p.bs.length : Int) := by omega
              go_wp2
              go_ret
              exact ⟨gr_no fun h => absurd h.b (by omega), HB0.out⟩
            · have z : ¬ (30 : Int) < (p.bs.length : Int) := by omega
              by_cases h3 : 10 < p.ss.length
              · have z2 : (10 : Int) < (p.ss.length : Int) := by omega
                go_wp2
                go_ret
                exact ⟨gr_no fun h => absurd h.s (by omega), HB0.out⟩
              · have z2 : ¬ (10 : Int) < (p.ss.length : Int) := by omega
                go_wp2
                go_ret
                exact ⟨⟨false, rfl, ⟨fun _ => ⟨HN.out, HK.out, by omega, by omega, by omega⟩, fun _ => rfl⟩⟩, HB0.out⟩
end Go.Proofs.YtgboboljgcfggaaGreatDoor
